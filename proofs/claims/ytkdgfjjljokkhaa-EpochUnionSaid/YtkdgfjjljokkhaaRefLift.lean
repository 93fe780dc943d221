/- The contracts of the law's 'deps' and of the reference's Lift, Class and fine. -/
import Derived.Test.YtkdgfjjljokkhaaLift
namespace Go.Proofs.Ytkdgfjjljokkhaa
open Go.RowKit
set_option linter.unusedVariables false

/-- What is handed back is a slice in new memory that reads as ds. -/
def DepsPost (ds : List (Int × Int × Int)) (w : World) (r : Ending) (w' : World) : Prop :=
  ∃ a cap, r = .returned (.slice a ds.length cap) ∧ IsDeps w' a ds.length ds ∧ Below w.heap.size w w'
theorem DepsPost.of_own {ds : List (Int × Int × Int)} {w w' : World} {v : Value} {base e n : Nat} (h : w'.ownsRow base e 3 v n (ds.flatMap cD)) (hb : Below w.heap.size w w') : DepsPost ds w (.returned v) w' := by
  obtain ⟨a, cap, rfl, hd⟩ := isDeps_of_own h
  obtain rfl := hd.1
  exact ⟨a, cap, rfl, hd, hb⟩
theorem DepsPost.none_ {w w' : World} (hb : Below w.heap.size w w') : DepsPost [] w (.returned (.slice none 0 0)) w' := ⟨none, 0, rfl, ⟨rfl, fun h => absurd h (by simp)⟩, hb⟩

/-- Lift, whatever the class. -/
def liftAll (c : Int) (ds : List (Int × Int × Int)) : List (Int × Int × Int) := if c < 0 ∨ 8 ≤ c then [] else liftL c ds
theorem lift_any (c : Int) (a : Option Addr) (len cap : Nat) (ds : List (Int × Int × Int)) (w : World) (hlen : len ≤ 1000000) (h : IsDeps w a len ds) :
    Calls Try.prog 26 #[.slice a len cap, .int .i64 c] w (DepsPost (liftAll c ds) w) := by
  by_cases hc : c < 0 ∨ 8 ≤ c
  · have e : liftAll c ds = [] := if_pos hc
    rw [e]
    exact (lift_none c a len cap w hc).mono fun r w' ⟨hr, hb⟩ => hr ▸ DepsPost.none_ hb
  · have e : liftAll c ds = liftL c ds := if_neg hc
    rw [e]
    exact (lift_some c a len cap ds w (by omega) (by omega) hlen h).mono fun r w' ⟨v, hr, ho, hb⟩ => hr ▸ DepsPost.of_own ho hb

theorem infoRDep : (Try.prog.info? 59).map (fun i => (i.zero, i.size, i.bytes)) = some (some (.agg #[.int .i64 0, .int .i64 0, .int .i64 0]), 3, 24) := by kernel_rfl

def CopyRel (ds : List (Int × Int × Int)) (w : World) (v i : Value) (wr : World) : Prop :=
  ∃ k : Nat, k ≤ ds.length ∧ i = .int .i64 k ∧ wr.ownsRow w.heap.size 59 3 v k ((ds.take k).flatMap cD) ∧ Below w.heap.size w wr

theorem take_flat (ds : List (Int × Int × Int)) (k : Nat) (h : k < ds.length) : (ds.take (k + 1)).flatMap cD = (ds.take k).flatMap cD ++ cD (ds.getD k d0) := by
  rw [take_snocD ds k h, List.flatMap_append]; simp

set_option maxRecDepth 100000 in
set_option maxHeartbeats 1000000 in
theorem deps_any (a : Option Addr) (len cap : Nat) (ds : List (Int × Int × Int)) (w : World) (hlen : len ≤ 1000000) (h : IsDeps w a len ds) :
    Calls Try.prog 25 #[.slice a len cap] w (DepsPost ds w) := by
  have H := Lib.hid h
  have HL := Lib.hid h.1
  clear h
  obtain ⟨i0, hi0, hz0, hz1, hz2⟩ := info_parts infoRDep
  go_enter Try.func25, Try.ntmps25
  go_wp2_with fail
  go_loopw [3, 8] (fun v i wr => CopyRel ds w v i wr) (fun _ i _ => len - (intOf i).toNat)
  case atStart => exact ⟨0, Nat.zero_le _, rfl, World.ownsRow_nil _ _ _ _, Below.refl _ _⟩
  case round =>
    obtain ⟨k, hk, rfl, own, bel⟩ := hrel
    rw [HL.out] at hk
    by_cases hlt : k < len
    · obtain ⟨bb, off, ha0, hbb, hcc⟩ := H.out.2 (by omega)
      have hc := hcc k hlt
      have c0 : wr.cell? ⟨bb, off + k * 3, none⟩ = some (.int .i64 (ds.getD k d0).1) := (bel.cell (p := ⟨bb, off + k * 3, none⟩) hbb).trans hc.1
      have c1 : wr.cell? ⟨bb, off + k * 3 + 1, none⟩ = some (.int .i64 (ds.getD k d0).2.1) := (bel.cell (p := ⟨bb, off + k * 3 + 1, none⟩) hbb).trans hc.2.1
      have c2 : wr.cell? ⟨bb, off + k * 3 + 1 + 1, none⟩ = some (.int .i64 (ds.getD k d0).2.2) := (bel.cell (p := ⟨bb, off + k * 3 + 2, none⟩) hbb).trans hc.2.2
      clear hc hcc
      subst ha0
      have hkl : k < ds.length := by rw [HL.out]; exact hlt
      have TF := Lib.hid (take_flat ds k hkl)
      generalize hd : ds.getD k d0 = d at *
      obtain ⟨f, t, nd⟩ := d
      simp only at c0 c1 c2
      clear hd H
      have og : ∀ g, u3.ownBlock = some g → w.heap.size ≤ g := fun g e => (own.lt g e).1
      have OG := Lib.hid og
      clear og
      have bs := bel.size
      go_wp2_with (at_builtin; refine wpList_append_own _ rfl _ _ 54 rfl w.heap.size 59 i0 _ 3 24 Try.underlying54 hi0 hz0 hz1 hz2 rfl (by decide) _ _ _ rfl ((own.alloc _).alloc _) ⟨wr.heap.size + 1, 0, none⟩ 1 1 (cD (f, t, nd)) rfl rfl ?c1 ?c2 ?c3 ?c4 ?c5 ?_)
      case c1 => exact World.news_of_block (cs := #[.int .i64 f, .int .i64 t, .int .i64 nd]) (t := 59) (fr := (0, 0)) (by have h := heap_alloc_new (wr.alloc (.cells #[.int .i64 f, .int .i64 t, .int .i64 nd] 61)) (.cells #[.int .i64 f, .int .i64 t, .int .i64 nd] 59); simpa using h)
      case c2 => intro u hu; simp [cD] at hu; rcases hu with rfl | rfl | rfl <;> rfl
      case c3 => unfold maxLen; omega
      case c4 => omega
      case c5 => simp; omega
      intro v' w1 own1 gr1 _
      have R : CopyRel ds w v' (.int .i64 ((k + 1 : Nat) : Int)) w1 := by
        refine ⟨k + 1, by have := HL.out; omega, rfl, ?_, ?_⟩
        · rw [TF.out]; exact own1
        · exact ((bel.alloc bs _).alloc (by simp; omega) _).grown gr1 (by simp; omega) OG.out
      clear own1 gr1 own
      go_wp2
      exact ⟨by simpa using R, by simp [intOf]; omega⟩
    · obtain rfl : k = len := by omega
      have e : ds.take k = ds := List.take_of_length_le (by have := HL.out; omega)
      rw [e] at own
      go_wp2
      go_ret
      exact DepsPost.of_own own bel

theorem fine_yes (c : Int) (w : World) (h0 : 0 ≤ c) (h1 : c < 64) :
    Calls Try.prog 31 #[.int .i64 c] w fun r w' => r = .returned (.bool true) ∧ w = w' := by
  go_enter Try.func31, Try.ntmps31
  go_wp2
  go_ret
  exact ⟨rfl, rfl⟩
theorem fine_no (c : Int) (w : World) (h : c < 0 ∨ 64 ≤ c) :
    Calls Try.prog 31 #[.int .i64 c] w fun r w' => r = .returned (.bool false) ∧ w = w' := by
  rcases h with h | h
  · go_enter Try.func31, Try.ntmps31
    go_wp2
    go_ret
    exact ⟨rfl, rfl⟩
  · have h0 : 0 ≤ c := by omega
    go_enter Try.func31, Try.ntmps31
    go_wp2
    go_ret
    refine ⟨?_, rfl⟩
    show Ending.returned (.bool (decide (c < 64))) = _
    rw [decide_eq_false (by omega)]

theorem rlift_none (c : Int) (a : Option Addr) (len cap : Nat) (w : World) (hc : c < 0 ∨ 8 ≤ c) :
    Calls Try.prog 27 #[.slice a len cap, .int .i64 c] w fun r w' => r = .returned (.slice none 0 0) ∧ w = w' := by
  rcases hc with h | h
  · go_enter Try.func27, Try.ntmps27
    go_wp2
    go_ret
    exact ⟨rfl, rfl⟩
  · have h0 : 0 ≤ c := by omega
    go_enter Try.func27, Try.ntmps27
    go_wp2
    go_ret
    exact ⟨rfl, rfl⟩

def RLiftRel (c : Int) (ds : List (Int × Int × Int)) (w : World) (v i : Value) (wr : World) : Prop :=
  ∃ k : Nat, k ≤ ds.length ∧ i = .int .i64 k ∧ wr.ownsRow w.heap.size 59 3 v (liftL c (ds.take k)).length ((liftL c (ds.take k)).flatMap cD) ∧ Below w.heap.size w wr

set_option maxRecDepth 100000 in
set_option maxHeartbeats 1000000 in
theorem rlift_some (c : Int) (a : Option Addr) (len cap : Nat) (ds : List (Int × Int × Int)) (w : World) (hc0 : 0 ≤ c) (hc1 : c < 8) (hlen : len ≤ 1000000) (h : IsDeps w a len ds) :
    Calls Try.prog 27 #[.slice a len cap, .int .i64 c] w (DepsPost (liftL c ds) w) := by
  have H := Lib.hid h
  have HL := Lib.hid h.1
  have HL2 := Lib.hid h.1
  clear h
  obtain ⟨i0, hi0, hz0, hz1, hz2⟩ := info_parts infoRDep
  go_enter Try.func27, Try.ntmps27
  go_wp2_with fail
  go_loopw [5, 6] (fun v i wr => RLiftRel c ds w v i wr) (fun _ i _ => len - (intOf i).toNat)
  case atStart => exact ⟨0, Nat.zero_le _, rfl, World.ownsRow_nil _ _ _ _, Below.refl _ _⟩
  case round =>
    obtain ⟨k, hk, rfl, own, bel⟩ := hrel
    rw [HL.out] at hk
    by_cases hlt : k < len
    · obtain ⟨bb, off, ha0, hbb, hcc⟩ := H.out.2 (by omega)
      have hc := hcc k hlt
      have c0 : wr.cell? ⟨bb, off + k * 3, none⟩ = some (.int .i64 (ds.getD k d0).1) := (bel.cell (p := ⟨bb, off + k * 3, none⟩) hbb).trans hc.1
      have c1 : wr.cell? ⟨bb, off + k * 3 + 1, none⟩ = some (.int .i64 (ds.getD k d0).2.1) := (bel.cell (p := ⟨bb, off + k * 3 + 1, none⟩) hbb).trans hc.2.1
      have c2 : wr.cell? ⟨bb, off + k * 3 + 2, none⟩ = some (.int .i64 (ds.getD k d0).2.2) := (bel.cell (p := ⟨bb, off + k * 3 + 2, none⟩) hbb).trans hc.2.2
      clear hc hcc
      subst ha0
      generalize hd : ds.getD k d0 = d at *
      obtain ⟨f, t, nd⟩ := d
      simp only at c0 c1 c2
      have hkl : k < ds.length := by rw [HL.out]; exact hlt
      have og : ∀ g, u5.ownBlock = some g → w.heap.size ≤ g := fun g e => (own.lt g e).1
      have own_ne : u5.ownBlock ≠ some bb := by intro e; have := og _ e; omega
      have OG := Lib.hid og
      clear og
      have bs := bel.size
      by_cases hok : 0 ≤ f ∧ f < 64 ∧ 0 ≤ t ∧ t < 64
      · have LY : Hid (liftL c (ds.take (k + 1)) = liftL c (ds.take k) ++ [liftD c (f, t, nd)]) := by
          have h := liftL_yes c ds k hkl (by rw [hd]; simp [okD, hok])
          rw [hd] at h; exact h
        have LL := liftL_length c (ds.take k)
        rw [List.length_take] at LL
        clear hd H HL hkl
        generalize liftL c (ds.take k) = xs at *
        obtain ⟨f0, f1, t0, t1⟩ := hok
        go_wp2_with fail
        refine (fine_yes f _ f0 f1).mono ?_
        rintro r w1 ⟨rfl, rfl⟩
        go_wp2_with fail
        refine (fine_yes t _ t0 t1).mono ?_
        rintro r w1 ⟨rfl, rfl⟩
        go_wp2_with fail
        have hki : (k : Int) < (len : Int) := by omega
        have hk0 : (0 : Int) ≤ (k : Int) := by omega
        have hbw : bb < wr.heap.size := by omega
        have q1 : IntKind.i64.wrap (8 * f) = 8 * f := IntWalk.i64_in _ (by omega)
        have q2 : IntKind.i64.wrap (8 * t) = 8 * t := IntWalk.i64_in _ (by omega)
        have q3 : IntKind.i64.wrap (8 * f + c) = 8 * f + c := IntWalk.i64_in _ (by omega)
        have q4 : IntKind.i64.wrap (8 * t + c) = 8 * t + c := IntWalk.i64_in _ (by omega)
        go_region_held3 (fun w' => w'.cell? ⟨bb, off + k * 3, none⟩ = some (.int .i64 f) ∧ w'.cell? ⟨bb, off + k * 3 + 1, none⟩ = some (.int .i64 t) ∧ w'.cell? ⟨bb, off + k * 3 + 2, none⟩ = some (.int .i64 nd))
          (first
            | go_keep
            | (go_split_ands
               refine ⟨?_, ?_, ?_⟩
               · (rw [gr2.cell_far _ (by simp; omega) (Ne.symm own_ne)]; assumption)
               · (rw [gr2.cell_far _ (by simp; omega) (Ne.symm own_ne)]; assumption)
               · (rw [gr2.cell_far _ (by simp; omega) (Ne.symm own_ne)]; assumption)))
          (first
            | (refine step_append_lies _ (by rfl) _ _ _ (by rfl) w.heap.size 59 i0 _ 3 24 Try.underlying54 hi0 hz0 hz1 hz2 rfl (by omega) u5 xs.length (xs.flatMap cD) (by rfl) ((own.alloc _).drew)
                ⟨wr.heap.size, 0, none⟩ 1 1 [.int .i64 (8 * f + c), .int .i64 (8 * t + c), .int .i64 nd] (by rfl) (by rfl) (World.news_of_block (cs := #[.int .i64 (8 * f + c), .int .i64 (8 * t + c), .int .i64 nd]) (t := 59) (fr := (0, 0)) (heap_alloc_new wr _)) (by simp [Value.oneCell'])
                (by omega) (by unfold maxLen; omega) (by omega) (by simp; omega) (wr.heap.size + 1) (by simp) ?_; intro gg cap w2 own2 gr2 hat2 hlt2))
        clear q1 q2 q3 q4
        have R : RLiftRel c ds w (.slice (some ⟨gg, 0, none⟩) (xs.length + 1) cap) (.int .i64 ((k + 1 : Nat) : Int)) w2 := by
          refine ⟨k + 1, by have := HL2.out; omega, rfl, ?_, ?_⟩
          · have h := LY.out
            rw [h, List.length_append, List.flatMap_append]
            exact own2
          · exact ((bel.alloc bs _).drew).grown gr2 (by simp; omega) OG.out
        clear own2 gr2
        go_wp2
        exact ⟨by simpa using R, by simp [intOf]; omega⟩
      · have LY : Hid (liftL c (ds.take (k + 1)) = liftL c (ds.take k)) :=
          liftL_no c ds k hkl (by rw [hd]; simp only [okD, decide_eq_false_iff_not]; exact hok)
        have RR : Hid (RLiftRel c ds w u5 (.int .i64 ((k + 1 : Nat) : Int)) wr) := by
          refine ⟨k + 1, by have := HL2.out; omega, rfl, ?_, bel⟩
          have h := LY.out
          rw [h]
          exact own
        clear hd H HL hkl own LY
        by_cases hf : 0 ≤ f ∧ f < 64
        · have ht : t < 0 ∨ 64 ≤ t := by omega
          obtain ⟨f0, f1⟩ := hf
          have HT := Lib.hid ht
          clear hok ht
          go_wp2_with fail
          refine (fine_yes f _ f0 f1).mono ?_
          rintro r w1 ⟨rfl, rfl⟩
          go_wp2_with fail
          refine (fine_no t _ HT.out).mono ?_
          rintro r w1 ⟨rfl, rfl⟩
          go_wp2
          exact ⟨by simpa using RR.out, by simp [intOf]; omega⟩
        · have hf' : f < 0 ∨ 64 ≤ f := by omega
          have HF := Lib.hid hf'
          clear hok hf hf'
          go_wp2_with fail
          refine (fine_no f _ HF.out).mono ?_
          rintro r w1 ⟨rfl, rfl⟩
          go_wp2
          exact ⟨by simpa using RR.out, by simp [intOf]; omega⟩
    · obtain rfl : k = len := by omega
      have e : ds.take k = ds := List.take_of_length_le (by have := HL.out; omega)
      rw [e] at own
      go_wp2
      go_ret
      exact DepsPost.of_own own bel

theorem rlift_any (c : Int) (a : Option Addr) (len cap : Nat) (ds : List (Int × Int × Int)) (w : World) (hlen : len ≤ 1000000) (h : IsDeps w a len ds) :
    Calls Try.prog 27 #[.slice a len cap, .int .i64 c] w (DepsPost (liftAll c ds) w) := by
  by_cases hc : c < 0 ∨ 8 ≤ c
  · have e : liftAll c ds = [] := if_pos hc
    rw [e]
    exact (rlift_none c a len cap w hc).mono fun r w' ⟨hr, hb⟩ => hr ▸ DepsPost.none_ (hb ▸ Below.refl _ _)
  · have e : liftAll c ds = liftL c ds := if_neg hc
    rw [e]
    exact rlift_some c a len cap ds w (by omega) (by omega) hlen h

theorem rclass_ok (e c k : Int) (w : World) (he : 0 ≤ e) (hk1 : 1 ≤ k) (hk4 : k ≤ 4) (hc0 : 0 ≤ c) (hc : c < k) :
    Calls Try.prog 24 #[.int .i64 e, .int .i64 c, .int .i64 k] w fun r w' => r = .returned (.tuple #[.int .i64 (c + k * (e % 2)), .int .i64 0]) ∧ w = w' := by
  have HC := Lib.hid (class_num e c k he hk1 hk4 hc0 hc)
  go_enter Try.func24, Try.ntmps24
  go_wp2
  go_ret2
  refine ⟨?_, rfl⟩
  show Ending.returned (.tuple #[.int .i64 (wrap64 (c + wrap64 (k * (e % 2)))), .int .i64 0]) = _
  rw [HC.out]

theorem rclass_err (e c k : Int) (w : World) (h : ¬ (0 ≤ e ∧ 1 ≤ k ∧ k ≤ 4 ∧ 0 ≤ c ∧ c < k)) :
    Calls Try.prog 24 #[.int .i64 e, .int .i64 c, .int .i64 k] w fun r w' => r = .returned (.tuple #[.int .i64 0, .int .i64 2]) ∧ w = w' := by
  rcases (by omega : e < 0 ∨ (0 ≤ e ∧ k < 1) ∨ (0 ≤ e ∧ 4 < k) ∨ (0 ≤ e ∧ 1 ≤ k ∧ k ≤ 4 ∧ c < 0) ∨ (0 ≤ e ∧ 1 ≤ k ∧ k ≤ 4 ∧ 0 ≤ c ∧ k ≤ c)) with h1 | ⟨h1, h2⟩ | ⟨h1, h2⟩ | ⟨h1, h2, h3, h4⟩ | ⟨h1, h2, h3, h4, h5⟩ <;> clear h
  all_goals
    go_enter Try.func24, Try.ntmps24
    go_wp2
    go_ret2
    exact ⟨rfl, rfl⟩
end Go.Proofs.Ytkdgfjjljokkhaa
