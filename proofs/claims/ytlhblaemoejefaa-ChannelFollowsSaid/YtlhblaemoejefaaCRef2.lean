/- The contracts of slices.Clone, slices.Index and slices.Contains at dependencies; of the reference's Less, Insert and Union. -/
import Derived.Test.YtlhblaemoejefaaCRef1
import Derived.Test.YtlhblaemoejefaaCInsP
import Derived.Test.YtlhblaemoejefaaCEnv
namespace Go.Proofs.Ytlhblaemoejefaa
open Go.RowKit Go.Maps Go.Sort Go.Shelf
set_option linter.unusedVariables false

/-- The call returns a slice that reads as l. -/
def DPost (l : List Dp) (w : World) (e : Ending) (w' : World) : Prop :=
  ∃ a c, e = .returned (.slice a l.length c) ∧ l.length ≤ c ∧ (a = none → c = 0) ∧ IsRec 3 cD d0 w' a l.length l ∧ Below w.heap.size w w'
theorem DPost.of_own {l : List Dp} {w w' : World} {base : Nat} {e : TypeId} {v : Value} {n : Nat} (h : w'.ownsRow base e 3 v n (l.flatMap cD)) (hb : Below w.heap.size w w') : DPost l w (.returned v) w' := by
  obtain ⟨a1, c1, hv1, h1, r1, _⟩ := rec_of_own (d := d0) (c := cD) (fun _ => rfl) (by decide) h
  obtain rfl : l.length = n := r1.1
  refine ⟨a1, c1, by rw [hv1], h1, fun ha => ?_, r1, hb⟩
  subst ha
  rcases h.2 with ⟨h2, _⟩ | ⟨g, cap, cur, h2, _⟩
  · rw [hv1] at h2; injection h2 with _ _ h3
  · rw [hv1] at h2; injection h2 with h3; cases h3
theorem infoDepD : (Try.prog.info? 28).map (fun i => (i.zero, i.size, i.bytes)) = some (some (.agg #[.int .i64 0, .int .i64 0, .int .i64 0]), 3, 24) := by kernel_rfl
set_option maxRecDepth 100000 in
set_option maxHeartbeats 1000000 in
theorem cloneD_any (a : Option Addr) (c : Nat) (l : List Dp) (w : World) (hl : l.length ≤ 1000000) (h : IsRec 3 cD d0 w a l.length l) :
    Calls Try.prog 14 #[.slice a l.length c] w (DPost l w) := by
  have hnil : ∀ (w : World) (a : Option Addr) (n c n' c' : Nat), (binOp .eql 25 (.slice a n c) (.slice none n' c')).run Try.prog w = .ok (.bool a.isNone) w := fun w a n c n' c' => Lib.run_eql_slice_nil w 25 28 a n c n' c' Try.underlying25
  have RA := Lib.hid ((reads_of_rec cD_len3 h).alloc (Nat.le_refl _) (.cells #[] 28))
  have H0 : Hid (a = none → DPost l w (.returned (.slice none 0 0)) w) := fun e => by
    have hz : l.length = 0 := by
      rcases Nat.eq_zero_or_pos l.length with h0 | h0
      · exact h0
      · obtain ⟨b, off, ha, _⟩ := h.2 h0; rw [e] at ha; cases ha
    have : l = [] := List.eq_nil_of_length_eq_zero hz
    subst this
    exact ⟨none, 0, rfl, Nat.le_refl _, fun _ => rfl, IsRec.nil w, Below.refl _ _⟩
  have fo := Lib.hid (cD_oneJ l)
  clear h
  obtain ⟨i0, hi0, hz0, hz1, hz2⟩ := info_parts infoDepD
  cases a with
  | none =>
    have F := Lib.hid (H0.out rfl)
    go_enter Try.func14, Try.ntmps14
    go_wp2_with fail
    go_ret
    exact F.out
  | some ad =>
    clear H0
    go_enter Try.func14, Try.ntmps14
    go_wp2_with (at_builtin; refine wpList_append_any _ rfl (.tmp 5) (.tmp 6) 25 rfl w.heap.size 28 i0 _ 3 24 Try.underlying25 hi0 hz0 hz1 hz2 rfl (by decide) _ 0 [] rfl (own_empty w 28 3) w.heap.size _ l.length c (l.flatMap cD) rfl RA.out fo.out ?c3 ?c4 ?c5 ?_)
    case c3 => unfold maxLen; omega
    case c4 => omega
    case c5 => simp
    intro v1 w1 own1 gr1 _
    try simp only [Nat.zero_add, List.nil_append] at own1
    have bel : Hid (Below w.heap.size w w1) := ((Below.refl _ _).alloc (Nat.le_refl _) _).grown gr1 (by simp) (by intro g e; simp [Value.ownBlock] at e; omega)
    have F : Hid (DPost l w (.returned v1) w1) := DPost.of_own own1 bel.out
    clear own1 gr1
    go_wp2_with fail
    go_ret
    exact F.out

def idxD (l : List Dp) (d : Dp) : Int := if d ∈ l then (l.idxOf d : Nat) else -1
theorem idxD_ge (l : List Dp) (d : Dp) : decide (0 ≤ idxD l d) = decide (d ∈ l) := by
  unfold idxD; split
  · rename_i h; simp [h]
  · rename_i h; simp [h]
theorem idxD_at {l : List Dp} {d : Dp} {k : Nat} (hk : k < l.length) (h1 : d ∉ l.take k) (h2 : d = l.getD k d0) : idxD l d = k := by
  have e : l.getD k d0 = l[k] := by simp [List.getD, hk]
  rw [e] at h2
  have hm : d ∈ l := by rw [h2]; exact List.getElem_mem hk
  unfold idxD; rw [if_pos hm]
  congr 1
  have hlt := List.idxOf_lt_length_iff.2 hm
  have hg : l[l.idxOf d] = d := List.getElem_idxOf hlt
  rcases Nat.lt_trichotomy (l.idxOf d) k with h | h | h
  · exact absurd (by rw [← hg]; exact List.mem_take_iff_getElem.2 ⟨l.idxOf d, by omega, rfl⟩) h1
  · exact h
  · have := List.not_of_lt_findIdx (p := (· == d)) (xs := l) (i := k) h
    simp [← h2] at this
def RelIdD (d : Dp) (l : List Dp) (w1 : World) (i : Value) (wr : World) : Prop := ∃ k : Nat, k ≤ l.length ∧ i = .int .i64 k ∧ d ∉ l.take k ∧ Below w1.heap.size w1 wr
set_option maxRecDepth 100000 in
set_option maxHeartbeats 2000000 in
theorem idxD_any (d : Dp) (l : List Dp) (a : Option Addr) (c : Nat) (w : World) (hl : l.length ≤ 1000000) (h : IsRec 3 cD d0 w a l.length l) :
    Calls Try.prog 43 #[.slice a l.length c, .agg #[.int .i64 d.1, .int .i64 d.2.1, .int .i64 d.2.2]] w fun e w' => e = .returned (.int .i64 (idxD l d)) ∧ Below w.heap.size w w' := by
  obtain ⟨w1, hw1⟩ : ∃ w1 : World, w.alloc (.cells #[.int .i64 d.1, .int .i64 d.2.1, .int .i64 d.2.2] 28) = w1 := ⟨_, rfl⟩
  have s0 : w1.cell? ⟨w.heap.size, 0, none⟩ = some (.int .i64 d.1) := by rw [← hw1]; simp [go_sem]
  have s1 : w1.cell? ⟨w.heap.size, 1, none⟩ = some (.int .i64 d.2.1) := by rw [← hw1]; simp [go_sem]
  have s2 : w1.cell? ⟨w.heap.size, 2, none⟩ = some (.int .i64 d.2.2) := by rw [← hw1]; simp [go_sem]
  have sz1 : w.heap.size < w1.heap.size := by rw [← hw1]; simp
  have BW : Hid (Below w.heap.size w w1) := by rw [← hw1]; exact (Below.refl _ _).alloc (Nat.le_refl _) _
  have H := Lib.hid (h.below (Nat.le_refl _) BW.out)
  have HW1 := Lib.hid hw1
  have KC : Hid (∀ w', Below w1.heap.size w1 w' → w'.cell? ⟨w.heap.size, 0, none⟩ = some (.int .i64 d.1) ∧ w'.cell? ⟨w.heap.size, 1, none⟩ = some (.int .i64 d.2.1) ∧ w'.cell? ⟨w.heap.size, 2, none⟩ = some (.int .i64 d.2.2) ∧ Below w.heap.size w w') :=
    fun w' hb => ⟨(hb.cell (by exact sz1)).trans s0, (hb.cell (by exact sz1)).trans s1, (hb.cell (by exact sz1)).trans s2, BW.out.trans (hb.mono BW.out.size)⟩
  clear h hw1 s0 s1 s2
  go_enter Try.func43, Try.ntmps43
  go_wp2_with fail
  rw [HW1.out]
  clear HW1
  go_loopw [8] (fun i wr => RelIdD d l w1 i wr) (fun i _ => l.length - (RowKit.intOf i).toNat)
  case atStart => exact ⟨0, Nat.zero_le _, rfl, by simp, Below.refl _ _⟩
  case round =>
    obtain ⟨k, hk, rfl, hall, bel⟩ := hrel
    have HA := Lib.hid hall
    obtain ⟨k0, k1, k2, bf⟩ := KC.out wr bel
    have BF := Lib.hid bf
    have BE := Lib.hid bel
    clear hall bf
    by_cases hkr : k < l.length
    · obtain ⟨b1, o1, ha1, hb1, hm1, e0, e1, e2⟩ := dep_at (H.out.below (Nat.le_refl _) bel) k hkr
      have HS : Hid (d ≠ l.getD k d0 → ∀ w', Below w1.heap.size w1 w' → RelIdD d l w1 (.int .i64 ((k + 1 : Nat) : Int)) w') := fun hx w' hb => ⟨k + 1, by omega, rfl, by
        rw [take_snocG d0 l k hkr, List.mem_append, List.mem_singleton]
        rintro (h1 | h1)
        · exact HA.out h1
        · exact hx h1, hb⟩
      have HY : Hid (d = l.getD k d0 → idxD l d = k) := fun hx => idxD_at hkr HA.out hx
      subst ha1
      generalize l.getD k d0 = x at *
      clear hm1 bel
      have i1 : (0 : Int) ≤ (k : Int) := by omega
      have i2 : (k : Int) < (l.length : Int) := by omega
      obtain ⟨x0, x1, x2⟩ := x
      simp only at e0 e1 e2
      have heq := eqDepD d.1 d.2.1 d.2.2 x0 x1 x2
      cases hq : (d.1 == x0 && d.2.1 == x1 && d.2.2 == x2) with
      | true =>
        rw [hq] at heq
        have F := Lib.hid (HY.out (by simp only [Bool.and_eq_true, beq_iff_eq] at hq; exact Prod.ext hq.1.1 (Prod.ext hq.1.2 hq.2)))
        clear HS HY hq
        go_wp2_with fail
        go_quiet (fail)
        go_wp2_with fail
        go_ret
        exact ⟨by rw [F.out]; rfl, below_drewN BF.out _⟩
      | false =>
        rw [hq] at heq
        have S := Lib.hid (HS.out (by intro e; rw [e] at hq; simp at hq))
        clear HS HY hq
        go_wp2_with fail
        go_quiet (fail)
        go_wp2_with fail
        exact ⟨by simpa using S.out _ (below_drewN BE.out _), by simp [RowKit.intOf]; omega⟩
    · obtain rfl : k = l.length := by omega
      have F : Hid (idxD l d = -1) := by rw [Hid]; unfold idxD; rw [if_neg (by have := HA.out; rw [List.take_length] at this; exact this)]
      clear bel
      go_wp2_with fail
      go_ret
      exact ⟨by rw [F.out]; rfl, BF.out⟩
set_option maxRecDepth 100000 in
set_option maxHeartbeats 1000000 in
theorem contD_any (d : Dp) (l : List Dp) (a : Option Addr) (c : Nat) (w : World) (hl : l.length ≤ 1000000) (h : IsRec 3 cD d0 w a l.length l) :
    Calls Try.prog 16 #[.slice a l.length c, .agg #[.int .i64 d.1, .int .i64 d.2.1, .int .i64 d.2.2]] w fun e w' => e = .returned (.bool (decide (d ∈ l))) ∧ Below w.heap.size w w' := by
  have BW : Hid (Below w.heap.size w (w.alloc (.cells #[.int .i64 d.1, .int .i64 d.2.1, .int .i64 d.2.2] 28))) := (Below.refl _ _).alloc (Nat.le_refl _) _
  have HC := Lib.hid (idxD_any d l a c (w.alloc (.cells #[.int .i64 d.1, .int .i64 d.2.1, .int .i64 d.2.2] 28)) hl (h.alloc _))
  have G := Lib.hid (idxD_ge l d)
  clear h
  go_enter Try.func16, Try.ntmps16
  go_wp2_with fail
  refine HC.out.mono ?_
  rintro e w2 ⟨rfl, bel⟩
  have BF : Hid (Below w.heap.size w w2) := BW.out.trans (bel.mono (by simp))
  clear bel
  generalize idxD l d = z at *
  go_wp2_with fail
  go_ret
  exact ⟨by rw [← G.out]; rfl, BF.out⟩

set_option maxHeartbeats 2000000 in
theorem less20_any (x y : Dp) (w : World) :
    Calls Try.prog 75 #[.agg #[.int .i64 x.1, .int .i64 x.2.1, .int .i64 x.2.2], .agg #[.int .i64 y.1, .int .i64 y.2.1, .int .i64 y.2.2]] w fun e w' => e = .returned (.bool (lessD x y)) ∧ Below w.heap.size w w' := by
  obtain ⟨x0, x1, x2⟩ := x
  obtain ⟨y0, y1, y2⟩ := y
  simp only
  have BW : Hid (Below w.heap.size w ((w.alloc (.cells #[.int .i64 x0, .int .i64 x1, .int .i64 x2] 34)).alloc (.cells #[.int .i64 y0, .int .i64 y1, .int .i64 y2] 34))) := ((Below.refl _ _).alloc (Nat.le_refl _) _).alloc (by simp) _
  cases h1 : x0 != y0 with
  | true =>
    have F : Hid (lessD (x0, x1, x2) (y0, y1, y2) = decide (x0 < y0)) := by rw [Hid]; unfold lessD; rw [if_pos (by simpa using h1)]
    go_enter Try.func75, Try.ntmps75
    go_wp2_with fail
    go_ret
    exact ⟨by rw [F.out]; rfl, BW.out⟩
  | false =>
    cases h2 : x1 != y1 with
    | true =>
      have F : Hid (lessD (x0, x1, x2) (y0, y1, y2) = decide (x1 < y1)) := by rw [Hid]; unfold lessD; rw [if_neg (by simpa using h1), if_pos (by simpa using h2)]
      go_enter Try.func75, Try.ntmps75
      go_wp2_with fail
      go_ret
      exact ⟨by rw [F.out]; rfl, BW.out⟩
    | false =>
      have F : Hid (lessD (x0, x1, x2) (y0, y1, y2) = decide (x2 < y2)) := by rw [Hid]; unfold lessD; rw [if_neg (by simpa using h1), if_neg (by simpa using h2)]
      go_enter Try.func75, Try.ntmps75
      go_wp2_with fail
      go_ret
      exact ⟨by rw [F.out]; rfl, BW.out⟩
end Go.Proofs.Ytlhblaemoejefaa
