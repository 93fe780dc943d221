/- The contracts of epoch.Lift and of its two closures. -/
import Derived.Test.YtkdgfjjljokkhaaAwake
import Derived.Test.YtkdgfjjljokkhaaDeps
import Derived.Deep.RegionHeld3
import Derived.Deep.QuietTactic
import Derived.BigQuiet
import Derived.KernelRfl
namespace Go.Proofs.Ytkdgfjjljokkhaa
open Go.RowKit
set_option linter.unusedVariables false

theorem exists_yes (c : Int) (w : World) (h0 : 0 ≤ c) (h1 : c < 64) :
    Calls Try.prog 29 #[.int .i64 c] w fun r w' => r = .returned (.bool true) ∧ w = w' := by
  go_enter Try.func29, Try.ntmps29
  go_wp2
  go_ret
  exact ⟨rfl, rfl⟩
theorem exists_no (c : Int) (w : World) (h : c < 0 ∨ 64 ≤ c) :
    Calls Try.prog 29 #[.int .i64 c] w fun r w' => r = .returned (.bool false) ∧ w = w' := by
  rcases h with h | h
  · go_enter Try.func29, Try.ntmps29
    go_wp2
    go_ret
    exact ⟨rfl, rfl⟩
  · have h0 : 0 ≤ c := by omega
    go_enter Try.func29, Try.ntmps29
    go_wp2
    go_ret
    refine ⟨?_, rfl⟩
    show Ending.returned (.bool (decide (c < 64))) = _
    rw [decide_eq_false (by omega)]
theorem lift_one (c k : Int) (b : Nat) (w : World) (h0 : 0 ≤ c) (h1 : c < 64) (hk0 : 0 ≤ k) (hk1 : k < 8) (hc : w.cell? ⟨b, 0, none⟩ = some (.int .i64 k)) :
    Calls Try.prog 30 #[.int .i64 c, .pointer (some ⟨b, 0, none⟩)] w fun r w' => r = .returned (.int .i64 (8 * c + k)) ∧ w = w' := by
  go_enter Try.func30, Try.ntmps30
  go_wp2
  go_ret
  exact ⟨rfl, rfl⟩

theorem infoDep : (Try.prog.info? 61).map (fun i => (i.zero, i.size, i.bytes)) = some (some (.agg #[.int .i64 0, .int .i64 0, .int .i64 0]), 3, 24) := by kernel_rfl

/-- What Lift leaves: a row of its own that holds the lifted dependencies. -/
def LiftPost (c : Int) (ds : List (Int × Int × Int)) (w : World) (r : Ending) (w' : World) : Prop :=
  ∃ v, r = .returned v ∧ w'.ownsRow w.heap.size 61 3 v (liftL c ds).length ((liftL c ds).flatMap cD) ∧ Below w.heap.size w w'

def LiftRel (c : Int) (ds : List (Int × Int × Int)) (w : World) (v i : Value) (wr : World) : Prop :=
  ∃ k : Nat, k ≤ ds.length ∧ i = .int .i64 k ∧ wr.ownsRow w.heap.size 61 3 v (liftL c (ds.take k)).length ((liftL c (ds.take k)).flatMap cD) ∧ Blk wr w.heap.size 3 #[.int .i64 c] ∧ Below w.heap.size w wr

theorem lift_none (c : Int) (a : Option Addr) (len cap : Nat) (w : World) (hc : c < 0 ∨ 8 ≤ c) :
    Calls Try.prog 26 #[.slice a len cap, .int .i64 c] w fun r w' => r = .returned (.slice none 0 0) ∧ Below w.heap.size w w' := by
  rcases hc with h | h
  · go_enter Try.func26, Try.ntmps26
    go_wp2
    go_ret
    exact ⟨rfl, (Below.refl _ _).alloc (Nat.le_refl _) _⟩
  · have h0 : 0 ≤ c := by omega
    go_enter Try.func26, Try.ntmps26
    go_wp2
    go_ret
    exact ⟨rfl, (Below.refl _ _).alloc (Nat.le_refl _) _⟩

set_option maxRecDepth 100000 in
set_option maxHeartbeats 1000000 in
theorem lift_some (c : Int) (a : Option Addr) (len cap : Nat) (ds : List (Int × Int × Int)) (w : World) (hc0 : 0 ≤ c) (hc1 : c < 8) (hlen : len ≤ 1000000) (h : IsDeps w a len ds) :
    Calls Try.prog 26 #[.slice a len cap, .int .i64 c] w (LiftPost c ds w) := by
  have H := Lib.hid h
  have hl : len ≤ 9223372036854775807 := by omega
  have HL := Lib.hid h.1
  have HL2 := Lib.hid h.1
  clear h
  obtain ⟨i0, hi0, hz0, hz1, hz2⟩ := info_parts infoDep
  have hmf : ∀ (fn : Fn) (first cap : Array Value) (w : World), (Instr.makeFunc fn first cap).run Try.prog w = .ok (.func fn first cap) w := fun _ _ _ _ => rfl
  go_enter Try.func26, Try.ntmps26
  go_wp2_with fail
  go_loopw [7, 19] (fun v i wr => LiftRel c ds w v i wr) (fun _ i _ => len - (intOf i).toNat)
  case atStart => exact ⟨0, Nat.zero_le _, rfl, World.ownsRow_nil _ _ _ _, Blk.new _ _ _, (Below.refl _ _).alloc (Nat.le_refl _) _⟩
  case round =>
    obtain ⟨k, hk, rfl, own, bc, bel⟩ := hrel
    rw [HL.out] at hk
    by_cases hlt : k < len
    · obtain ⟨bb, off, ha0, hbb, hcc⟩ := H.out.2 (by omega)
      have hc := hcc k hlt
      have c0 : wr.cell? ⟨bb, off + k * 3, none⟩ = some (.int .i64 (ds.getD k d0).1) := (bel.cell (p := ⟨bb, off + k * 3, none⟩) hbb).trans hc.1
      have c1 : wr.cell? ⟨bb, off + k * 3 + 1, none⟩ = some (.int .i64 (ds.getD k d0).2.1) := (bel.cell (p := ⟨bb, off + k * 3 + 1, none⟩) hbb).trans hc.2.1
      have c2 : wr.cell? ⟨bb, off + k * 3 + 1 + 1, none⟩ = some (.int .i64 (ds.getD k d0).2.2) := (bel.cell (p := ⟨bb, off + k * 3 + 2, none⟩) hbb).trans hc.2.2
      clear hc hcc
      subst ha0
      generalize hd : ds.getD k d0 = d at *
      obtain ⟨f, t, nd⟩ := d
      simp only at c0 c1 c2
      have hkl : k < ds.length := by rw [HL.out]; exact hlt
      by_cases hok : 0 ≤ f ∧ f < 64 ∧ 0 ≤ t ∧ t < 64
      · have LY : Hid (liftL c (ds.take (k + 1)) = liftL c (ds.take k) ++ [liftD c (f, t, nd)]) := by
          have h := liftL_yes c ds k hkl (by rw [hd]; simp [okD, hok])
          rw [hd] at h; exact h
        have LL := liftL_length c (ds.take k)
        rw [List.length_take] at LL
        clear hd H HL hkl
        generalize liftL c (ds.take k) = xs at *
        obtain ⟨f0, f1, t0, t1⟩ := hok
        obtain ⟨wa, hwa⟩ : ∃ wa, wa = wr.alloc (.cells #[.int .i64 f, .int .i64 t, .int .i64 nd] 61) := ⟨_, rfl⟩
        have owa : wa.ownsRow w.heap.size 61 3 u7 xs.length (xs.flatMap cD) := hwa ▸ own.alloc _
        have ba : Blk wa w.heap.size 3 #[.int .i64 c] := hwa ▸ Blk.alloc bc _
        have ta : Blk wa wr.heap.size 61 #[.int .i64 f, .int .i64 t, .int .i64 nd] := hwa ▸ Blk.new _ _ _
        have bela : Below w.heap.size w wa := hwa ▸ bel.alloc bel.size _
        have own_nb : u7.ownBlock ≠ some w.heap.size := own_blk_ne own bc (by decide)
        have own_ge : ∀ g, u7.ownBlock = some g → w.heap.size ≤ g := fun g e => (own.lt g e).1
        have OG := Lib.hid own_ge
        clear own_ge
        have own_ne : u7.ownBlock ≠ some wr.heap.size := by intro e; have := (own.lt _ e).2; omega
        have HWA := Lib.hid hwa
        clear hwa
        go_wp2_with fail
        rw [← HWA.out]
        clear HWA c0 c1 c2 bel bc own
        generalize wr.heap.size = tb at *
        have ct0 : wa.cell? ⟨tb, 0, none⟩ = some (.int .i64 f) := ta.cell 0
        have ct1 : wa.cell? ⟨tb, 0 + 1, none⟩ = some (.int .i64 t) := ta.cell 1
        have ct2 : wa.cell? ⟨tb, 0 + 2, none⟩ = some (.int .i64 nd) := ta.cell 2
        have cc : wa.cell? ⟨w.heap.size, 0, none⟩ = some (.int .i64 c) := ba.cell 0
        refine (exists_yes f _ f0 f1).mono ?_
        rintro r w1 ⟨rfl, rfl⟩
        go_wp2_with fail
        refine (exists_yes t _ t0 t1).mono ?_
        rintro r w1 ⟨rfl, rfl⟩
        go_wp2_with fail
        have hba : w.heap.size ≤ wa.heap.size := bela.size
        have htb : tb < wa.heap.size := ta.lt
        clear ct1 ct2
        have ct1 : wa.cell? ⟨tb, 1, none⟩ = some (.int .i64 t) := ta.cell 1
        have ct2 : wa.cell? ⟨tb, 2, none⟩ = some (.int .i64 nd) := ta.cell 2
        go_region_held3 (fun w' => w'.cell? ⟨tb, 0, none⟩ = some (.int .i64 f) ∧ w'.cell? ⟨tb, 1, none⟩ = some (.int .i64 t) ∧ w'.cell? ⟨tb, 2, none⟩ = some (.int .i64 nd))
          (first
            | go_keep
            | (go_split_ands
               refine ⟨?_, ?_, ?_⟩
               · (rw [gr2.cell_far _ (by simp; omega) (Ne.symm own_ne)]; assumption)
               · (rw [gr2.cell_far _ (by simp; omega) (Ne.symm own_ne)]; assumption)
               · (rw [gr2.cell_far _ (by simp; omega) (Ne.symm own_ne)]; assumption)))
          (first
            | (go_at_call 30; refine (lift_one _ c w.heap.size _ (by omega) (by omega) hc0 hc1 ?_).mono ?_; (simp [*]); rintro r w1 ⟨rfl, rfl⟩)
            | (refine step_append_lies _ (by rfl) _ _ _ (by rfl) w.heap.size 61 i0 _ 3 24 Try.underlying51 hi0 hz0 hz1 hz2 rfl (by omega) u7 xs.length (xs.flatMap cD) (by rfl) ((owa.alloc _).drew)
                ⟨wa.heap.size, 0, none⟩ 1 1 [.int .i64 (8 * f + c), .int .i64 (8 * t + c), .int .i64 nd] (by rfl) (by rfl) (World.news_of_block (cs := #[.int .i64 (8 * f + c), .int .i64 (8 * t + c), .int .i64 nd]) (t := 61) (fr := (0, 0)) (heap_alloc_new wa _)) (by simp [Value.oneCell'])
                (by omega) (by unfold maxLen; omega) (by omega) (by simp; omega) (wa.heap.size + 1) (by simp) ?_; intro gg cap w2 own2 gr2 hat2 hlt2))
        have R : LiftRel c ds w (.slice (some ⟨gg, 0, none⟩) (xs.length + 1) cap) (.int .i64 ((k + 1 : Nat) : Int)) w2 := by
          refine ⟨k + 1, by have := HL2.out; omega, rfl, ?_, ?_, ?_⟩
          · have h := LY.out
            rw [h, List.length_append, List.flatMap_append]
            exact own2
          · exact Blk.grown (Blk.drew (Blk.alloc ba _)) gr2 (Ne.symm own_nb)
          · exact ((bela.alloc hba _).drew).grown gr2 (by simp; omega) OG.out
        clear own2 gr2
        go_wp2
        exact ⟨by simpa using R, by simp [intOf]; omega⟩
      · have LY : Hid (liftL c (ds.take (k + 1)) = liftL c (ds.take k)) :=
          liftL_no c ds k hkl (by rw [hd]; simp only [okD, decide_eq_false_iff_not]; exact hok)
        have R : ∀ w2, wr.grownBy w2 none → LiftRel c ds w u7 (.int .i64 ((k + 1 : Nat) : Int)) w2 := by
          intro w2 gr2
          refine ⟨k + 1, by have := HL2.out; omega, rfl, ?_, ?_, ?_⟩
          · have h := LY.out
            rw [h]
            exact own.kept gr2 (by cases hv : u7.ownBlock <;> simp)
          · exact Blk.grown bc gr2 (by simp)
          · exact bel.grown gr2 bel.size (by simp)
        have RR := Lib.hid (R _ (World.grownBy_alloc wr (.cells #[.int .i64 f, .int .i64 t, .int .i64 nd] 61) none))
        clear hd H HL hkl R own bc LY
        by_cases hf : 0 ≤ f ∧ f < 64
        · have ht : t < 0 ∨ 64 ≤ t := by omega
          obtain ⟨f0, f1⟩ := hf
          have HT := Lib.hid ht
          clear hok ht
          go_wp2_with fail
          refine (exists_yes f _ f0 f1).mono ?_
          rintro r w1 ⟨rfl, rfl⟩
          go_wp2_with fail
          refine (exists_no t _ HT.out).mono ?_
          rintro r w1 ⟨rfl, rfl⟩
          go_wp2
          exact ⟨by simpa using RR.out, by simp [intOf]; omega⟩
        · have hf' : f < 0 ∨ 64 ≤ f := by omega
          have HF := Lib.hid hf'
          clear hok hf hf'
          go_wp2_with fail
          refine (exists_no f _ HF.out).mono ?_
          rintro r w1 ⟨rfl, rfl⟩
          go_wp2
          exact ⟨by simpa using RR.out, by simp [intOf]; omega⟩
    · obtain rfl : k = len := by omega
      have e : ds.take k = ds := List.take_of_length_le (by have := HL.out; omega)
      rw [e] at own
      go_wp2
      go_ret
      exact ⟨u7, rfl, own, bel⟩
end Go.Proofs.Ytkdgfjjljokkhaa
