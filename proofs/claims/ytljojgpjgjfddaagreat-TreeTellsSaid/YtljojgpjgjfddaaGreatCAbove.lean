/- The contracts of channel.Channel, ends, leaving and of order.Above. -/
import Derived.Test.YtljojgpjgjfddaaGreatCTable
import Derived.Test.YtljojgpjgjfddaaGreatCCmp
namespace Go.Proofs.YtljojgpjgjfddaaGreat
open Go.RowKit Go.Maps
set_option linter.unusedVariables false

set_option maxHeartbeats 1000000 in
theorem cends_any (cs : List Cb) (An Ac : Option Addr) (ln cn cc : Nat) (c : Int) (w : World) (hl : cs.length ≤ 1000000) (h : IsRec 6 cC cb0 w Ac cs.length cs) (h0 : 0 ≤ c) (h1 : c < 2 * cs.length) :
    Calls Tryz.prog 38 #[.agg #[.slice An ln cn, .slice Ac cs.length cc], .int .i64 c] w fun e w' =>
      e = .returned (.tuple #[.int .i64 (chEnds cs c).1, .int .i64 (chEnds cs c).2]) ∧ Below w.heap.size w w' := by
  obtain ⟨k, hk⟩ : ∃ k : Nat, c / 2 = k := ⟨(c / 2).toNat, by omega⟩
  have hkl : k < cs.length := by omega
  obtain ⟨bb, off, ha, hbb, hmem, c0, c1, c2, c3, c4, c5⟩ := cable_at (h.alloc (.cells #[.slice An ln cn, .slice Ac cs.length cc] 25)) k hkl
  have HE : Hid (chEnds cs c = if c % 2 = 0 then ((cs.getD k cb0).a, (cs.getD k cb0).b) else ((cs.getD k cb0).b, (cs.getD k cb0).a)) := by
    show _ = _; unfold chEnds; rw [hk]; rfl
  generalize cs.getD k cb0 = x at *
  subst ha
  obtain ⟨xa, xap, xb, xbp, xdl, xcp⟩ := x
  simp only at c0 c1 c2 c3 c4 c5 HE
  clear hmem h
  have BW : Hid (Below w.heap.size w ((w.alloc (.cells #[.slice An ln cn, .slice (some ⟨bb, off, none⟩) cs.length cc] 25)).alloc (.cells #[.int .i64 xa, .int .i64 xap, .int .i64 xb, .int .i64 xbp, .int .i64 xdl, .int .i64 xcp] 85))) :=
    ((Below.refl _ _).alloc (Nat.le_refl _) _).alloc (by simp) _
  by_cases hm : c % 2 = 0
  · rw [if_pos hm] at HE
    go_enter Tryz.func38, Tryz.ntmps38
    go_wp2_with fail
    go_quiet (fail)
    go_wp2_with fail
    go_ret2
    exact ⟨by rw [HE.out]; rfl, below_drewN BW.out _⟩
  · rw [if_neg hm] at HE
    have hm1 : c % 2 = 1 := by omega
    clear hm
    go_enter Tryz.func38, Tryz.ntmps38
    go_wp2_with fail
    go_quiet (fail)
    go_wp2_with fail
    go_ret2
    exact ⟨by rw [HE.out]; rfl, below_drewN BW.out _⟩
def chanV (cable dir : Int) : Int := if cable < 0 ∨ 32 ≤ cable ∨ dir < 0 ∨ 1 < dir then -1 else 2 * cable + dir
set_option maxHeartbeats 1000000 in
theorem channel_any (cable dir : Int) (w : World) : Calls Tryz.prog 90 #[.int .i64 cable, .int .i64 dir] w fun e w' => e = .returned (.int .i64 (chanV cable dir)) ∧ w = w' := by
  by_cases h : cable < 0 ∨ 32 ≤ cable ∨ dir < 0 ∨ 1 < dir
  · have F : Hid (chanV cable dir = -1) := by rw [Hid]; unfold chanV; rw [if_pos h]
    have h' : cable < 0 ∨ (0 ≤ cable ∧ 32 ≤ cable) ∨ (0 ≤ cable ∧ cable < 32 ∧ dir < 0) ∨ (0 ≤ cable ∧ cable < 32 ∧ 0 ≤ dir ∧ 1 < dir) := by omega
    clear h
    rcases h' with h1 | ⟨h1, h2⟩ | ⟨h1, h2, h3⟩ | ⟨h1, h2, h3, h4⟩
    all_goals
      go_enter Tryz.func90, Tryz.ntmps90
      go_wp2_with fail
      go_ret
      exact ⟨by rw [F.out]; rfl, rfl⟩
  · have F : Hid (chanV cable dir = 2 * cable + dir) := by rw [Hid]; unfold chanV; rw [if_neg h]
    have h1 : 0 ≤ cable := by omega
    have h2 : cable < 32 := by omega
    have h3 : 0 ≤ dir := by omega
    have h4 : dir ≤ 1 := by omega
    clear h
    go_enter Tryz.func90, Tryz.ntmps90
    go_wp2_with fail
    go_ret
    exact ⟨by rw [F.out]; rfl, rfl⟩
def leavV (cs : List Cb) (cable node : Int) : Int := if (cs.getD cable.toNat cb0).a = node then chanV cable 0 else chanV cable 1
set_option maxHeartbeats 1000000 in
theorem leaving_any (cs : List Cb) (An Ac : Option Addr) (ln cn cc : Nat) (cable node : Int) (w : World) (hl : cs.length ≤ 1000000) (h : IsRec 6 cC cb0 w Ac cs.length cs) (h0 : 0 ≤ cable) (h1 : cable < cs.length) :
    Calls Tryz.prog 39 #[.agg #[.slice An ln cn, .slice Ac cs.length cc], .int .i64 cable, .int .i64 node] w fun e w' => e = .returned (.int .i64 (leavV cs cable node)) ∧ Below w.heap.size w w' := by
  obtain ⟨k, rfl⟩ : ∃ k : Nat, cable = k := ⟨cable.toNat, by omega⟩
  have hkl : k < cs.length := by omega
  obtain ⟨bb, off, ha, hbb, hmem, c0, c1, c2, c3, c4, c5⟩ := cable_at (h.alloc (.cells #[.slice An ln cn, .slice Ac cs.length cc] 25)) k hkl
  have HE : Hid (leavV cs k node = if (cs.getD k cb0).a = node then chanV k 0 else chanV k 1) := by rw [Hid]; unfold leavV; rw [Int.toNat_natCast]
  generalize cs.getD k cb0 = x at *
  subst ha
  obtain ⟨xa, xap, xb, xbp, xdl, xcp⟩ := x
  simp only at c0 HE
  have BW : Hid (Below w.heap.size w (w.alloc (.cells #[.slice An ln cn, .slice (some ⟨bb, off, none⟩) cs.length cc] 25))) := (Below.refl _ _).alloc (Nat.le_refl _) _
  clear hmem h c1 c2 c3 c4 c5
  cases hq : xa == node with
  | true =>
    rw [if_pos (by simpa using hq)] at HE
    go_enter Tryz.func39, Tryz.ntmps39
    go_wp2_with fail
    refine (channel_any _ _ _).mono ?_
    rintro e w' ⟨rfl, rfl⟩
    go_wp2_with fail
    go_ret
    exact ⟨by rw [HE.out]; rfl, BW.out⟩
  | false =>
    rw [if_neg (by simpa using hq)] at HE
    go_enter Tryz.func39, Tryz.ntmps39
    go_wp2_with fail
    refine (channel_any _ _ _).mono ?_
    rintro e w' ⟨rfl, rfl⟩
    go_wp2_with fail
    go_ret
    exact ⟨by rw [HE.out]; rfl, BW.out⟩

def hasB (lv : List Int) (n : Int) : Bool := decide (0 ≤ n) && decide (n < lv.length) && decide (0 ≤ lvAt lv n)
def aboveB (lv : List Int) (a b : Int) : Bool := hasB lv a && hasB lv b && decide (orL [cmpZ (lvAt lv a) (lvAt lv b), cmpZ a b] < 0)
set_option maxHeartbeats 1000000 in
theorem has_any (lv : List Int) (Al : Option Addr) (cl g : Nat) (n : Int) (w : World) (hl : lv.length ≤ 1000000) (hc : w.cell? ⟨g, 0, none⟩ = some (.slice Al lv.length cl)) (h : IsRec 1 cI 0 w Al lv.length lv) :
    Calls Tryz.prog 88 #[.int .i64 n, .pointer (some ⟨g, 0, none⟩)] w fun e w' => e = .returned (.bool (hasB lv n)) ∧ w = w' := by
  have HD : Hid (hasB lv n = (decide (0 ≤ n) && decide (n < lv.length) && decide (0 ≤ lvAt lv n))) := rfl
  by_cases h1 : 0 ≤ n
  · by_cases h2 : n < lv.length
    · obtain ⟨k, rfl⟩ : ∃ k : Nat, n = k := ⟨n.toNat, by omega⟩
      have hk : k < lv.length := by omega
      obtain ⟨b1, o1, ha1, hb1, hm1, e1⟩ := int_at h k hk
      have HE : Hid (lvAt lv k = lv.getD k 0) := by rw [Hid]; unfold lvAt; rw [Int.toNat_natCast]
      generalize lv.getD k 0 = x at *
      subst ha1
      clear hm1 h
      cases h3 : decide (0 ≤ x) with
      | true =>
        have F : Hid (hasB lv k = true) := by rw [Hid, HD.out, HE.out, decide_eq_true h1, decide_eq_true h2, h3]; rfl
        clear HD
        go_enter Tryz.func88, Tryz.ntmps88
        go_wp2_with fail
        go_ret
        exact ⟨by rw [F.out]; rfl, rfl⟩
      | false =>
        have F : Hid (hasB lv k = false) := by rw [Hid, HD.out, HE.out, decide_eq_true h1, decide_eq_true h2, h3]; rfl
        clear HD
        go_enter Tryz.func88, Tryz.ntmps88
        go_wp2_with fail
        go_ret
        exact ⟨by rw [F.out]; rfl, rfl⟩
    · have F : Hid (hasB lv n = false) := by rw [Hid, HD.out, decide_eq_false h2]; simp
      clear HD h
      go_enter Tryz.func88, Tryz.ntmps88
      go_wp2_with fail
      go_ret
      exact ⟨by rw [F.out]; rfl, rfl⟩
  · have F : Hid (hasB lv n = false) := by rw [Hid, HD.out, decide_eq_false h1]; simp
    clear HD h
    go_enter Tryz.func88, Tryz.ntmps88
    go_wp2_with fail
    go_ret
    exact ⟨by rw [F.out]; rfl, rfl⟩
set_option maxRecDepth 100000 in
set_option maxHeartbeats 2000000 in
theorem above_any (lv : List Int) (Al : Option Addr) (cl : Nat) (a b : Int) (w : World) (hl : lv.length ≤ 1000000) (h : IsRec 1 cI 0 w Al lv.length lv) :
    Calls Tryz.prog 36 #[.agg #[.slice Al lv.length cl], .int .i64 a, .int .i64 b] w fun e w' => e = .returned (.bool (aboveB lv a b)) ∧ Below w.heap.size w w' := by
  obtain ⟨w1, hw1⟩ : ∃ w1 : World, w.alloc (.cells #[.slice Al lv.length cl] 30) = w1 := ⟨_, rfl⟩
  have s0 : w1.cell? ⟨w.heap.size, 0, none⟩ = some (.slice Al lv.length cl) := by rw [← hw1]; simp [go_sem]
  have sz1 : w.heap.size < w1.heap.size := by rw [← hw1]; simp
  have BW0 : Below w.heap.size w w1 := by rw [← hw1]; exact (Below.refl _ _).alloc (Nat.le_refl _) _
  have L1 := Lib.hid (h.below (Nat.le_refl _) BW0)
  have BW := Lib.hid BW0
  have HW1 := Lib.hid hw1
  have HD : Hid (aboveB lv a b = (hasB lv a && hasB lv b && decide (orL [cmpZ (lvAt lv a) (lvAt lv b), cmpZ a b] < 0))) := rfl
  have ca := Lib.hid (has_any lv Al cl w.heap.size a w1 hl s0 L1.out)
  have cb := Lib.hid (has_any lv Al cl w.heap.size b w1 hl s0 L1.out)
  clear h hw1 BW0
  cases h1 : hasB lv a with
  | false =>
    have F : Hid (aboveB lv a b = false) := by rw [Hid, HD.out, h1]; rfl
    rw [h1] at ca
    clear HD h1
    go_enter Tryz.func36, Tryz.ntmps36
    go_wp2_with fail
    rw [HW1.out]
    refine ca.out.mono ?_
    rintro e w' ⟨rfl, rfl⟩
    go_wp2_with fail
    go_ret
    exact ⟨by rw [F.out]; rfl, BW.out⟩
  | true =>
    cases h2 : hasB lv b with
    | false =>
      have F : Hid (aboveB lv a b = false) := by rw [Hid, HD.out, h2]; simp
      rw [h1] at ca
      rw [h2] at cb
      clear HD h1 h2
      go_enter Tryz.func36, Tryz.ntmps36
      go_wp2_with fail
      rw [HW1.out]
      refine ca.out.mono ?_
      rintro e w' ⟨rfl, rfl⟩
      go_wp2_with fail
      refine cb.out.mono ?_
      rintro e w' ⟨rfl, rfl⟩
      go_wp2_with fail
      go_ret
      exact ⟨by rw [F.out]; rfl, BW.out⟩
    | true =>
      have ha := h1
      have hb := h2
      unfold hasB at ha hb
      simp only [Bool.and_eq_true, decide_eq_true_eq] at ha hb
      obtain ⟨i, rfl⟩ : ∃ i : Nat, a = i := ⟨a.toNat, by omega⟩
      obtain ⟨j, rfl⟩ : ∃ j : Nat, b = j := ⟨b.toNat, by omega⟩
      have hi : i < lv.length := by omega
      have hj : j < lv.length := by omega
      have i1 : (i : Int) < (lv.length : Int) := by omega
      have j1 : (j : Int) < (lv.length : Int) := by omega
      have i0 : (0 : Int) ≤ (i : Int) := by omega
      have j0 : (0 : Int) ≤ (j : Int) := by omega
      obtain ⟨bl, ol, hal, hbl, hma, ea⟩ := int_at L1.out i hi
      obtain ⟨bl', ol', hal', _, hmb, eb⟩ := int_at L1.out j hj
      rw [hal] at hal'
      injection hal' with hal'
      injection hal' with hal1 hal2
      subst hal1
      subst hal2
      have F : Hid (aboveB lv i j = decide (orL [cmpZ (lv.getD i 0) (lv.getD j 0), cmpZ i j] < 0)) := by
        rw [Hid, HD.out, h1, h2]; unfold lvAt; simp only [Int.toNat_natCast, Bool.true_and]
      rw [h1] at ca
      rw [h2] at cb
      generalize lv.getD i 0 = va at *
      generalize lv.getD j 0 = vb at *
      subst hal
      clear HD h1 h2 ha hb hma hmb
      have KP : Hid (∀ w', Below w1.heap.size w1 w' → w'.cell? ⟨w.heap.size, 0, none⟩ = some (.slice (some ⟨bl, ol, none⟩) lv.length cl) ∧ w'.cell? ⟨bl, ol + i, none⟩ = some (.int .i64 va) ∧ w'.cell? ⟨bl, ol + j, none⟩ = some (.int .i64 vb)) :=
        fun w' hb => ⟨(hb.cell (by exact sz1)).trans s0, (hb.cell (by exact hbl)).trans ea, (hb.cell (by exact hbl)).trans eb⟩
      have BA : Hid (∀ o, Below w1.heap.size w1 (w1.alloc o).drew) := fun o => ((Below.refl _ _).alloc (Nat.le_refl _) _).drew
      have RC : Hid (IsRec 1 cI 0 (w1.alloc (.cells #[.int .i64 (cmpZ va vb), .int .i64 (cmpZ i j)] 3)).drew (some ⟨w1.heap.size, 0, none⟩) 2 [cmpZ va vb, cmpZ i j]) := by
        refine ⟨rfl, fun _ => ⟨_, 0, rfl, by simp, fun q r hq hr => ?_⟩⟩
        rw [((Blk.new w1 3 _).drew).cell]
        obtain rfl : r = 0 := by omega
        match q, hq with
        | 0, _ => rfl
        | 1, _ => rfl
      go_enter Tryz.func36, Tryz.ntmps36
      go_wp2_with fail
      rw [HW1.out]
      refine ca.out.mono ?_
      rintro e w' ⟨rfl, rfl⟩
      go_wp2_with fail
      refine cb.out.mono ?_
      rintro e w' ⟨rfl, rfl⟩
      go_wp2_with fail
      go_region_held3 (fun w' => w'.cell? ⟨w.heap.size, 0, none⟩ = some (.slice (some ⟨bl, ol, none⟩) lv.length cl) ∧ w'.cell? ⟨bl, ol + i, none⟩ = some (.int .i64 va) ∧ w'.cell? ⟨bl, ol + j, none⟩ = some (.int .i64 vb))
        (first | exact KP.out _ ((Below.refl _ _).drew) | exact KP.out _ (BA.out _))
        (first
          | (go_at_call 56; refine (cmpI_any _ _ _).mono ?_; rintro e w' ⟨rfl, rfl⟩)
          | (go_at_call 55; refine (cmpOr_any [cmpZ va vb, cmpZ i j] _ _ _ (by simp) RC.out).mono ?_; rintro e w' ⟨rfl, rfl⟩))
      all_goals
        generalize orL [cmpZ va vb, cmpZ i j] = z at *
        go_wp2_with fail
        go_ret
        exact ⟨by rw [F.out]; rfl, BW.out.trans ((BA.out _).mono (by omega))⟩
end Go.Proofs.YtljojgpjgjfddaaGreat
