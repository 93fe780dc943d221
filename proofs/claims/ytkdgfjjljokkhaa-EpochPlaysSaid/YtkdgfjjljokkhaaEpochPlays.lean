/- The walk of the law EpochPlays. -/
import Derived.Test.YtkdgfjjljokkhaaSim
import Derived.Test.YtkdgfjjljokkhaaFrame
namespace Go.Proofs.Ytkdgfjjljokkhaa.epochPlaysW
open Go.RowKit
set_option linter.unusedVariables false

/-- A list that lies above the block b. -/
def Over (b : Nat) (A : Option Addr) : Prop := ∀ x : Addr, A = some x → b < x.block

def Rel (len : Nat) (w : World) (g mb : Nat) (i : Value) (wr : World) : Prop :=
  ∃ k : Nat, k ≤ len ∧ i = .int .i64 k ∧ ∃ (n x y : Int) (L : List Int) (A : Option Addr) (cap : Nat), Bk wr g n x y ∧ Inv k n x y ∧ Sim n x y L ∧ L.length ≤ k ∧ L.length ≤ cap ∧
    Blk wr mb 28 #[.int .i64 n, .slice A L.length cap] ∧ IsList wr A L.length L ∧ Over mb A ∧ Below w.heap.size w wr

theorem list_grown {w w' : World} {g : Nat} {a : Option Addr} {len : Nat} {L : List Int} (h : IsList w a len L) (hg : w.grownBy w' (some g)) (hne : ∀ x, a = some x → g < x.block) : IsList w' a len L := by
  refine ⟨h.1, fun h0 => ?_⟩
  obtain ⟨b, off, e, hlt, hc⟩ := h.2 h0
  have := hne _ e
  refine ⟨b, off, e, by have := hg.size; omega, fun i hi => ?_⟩
  rw [hg.cell_far ⟨b, off + i, none⟩ hlt (by simp; simp at this; omega)]
  exact hc i hi

theorem Rel.alloc {len : Nat} {w : World} {g mb : Nat} {i : Value} {wr : World} (h : Rel len w g mb i wr) (o : Obj) : Rel len w g mb i (wr.alloc o) := by
  obtain ⟨k, hk, hi, n, x, y, L, A, cap, b, inv, sim, hLk, hcap, bm, isl, ov, bel⟩ := h
  exact ⟨k, hk, hi, n, x, y, L, A, cap, Blk.alloc b _, inv, sim, hLk, hcap, Blk.alloc bm _, isl.below (Nat.le_refl _) ((Below.refl _ _).alloc (Nat.le_refl _) _), ov, bel.alloc bel.size _⟩

/-- The call of the reference that an act makes, whatever the act. -/
theorem act_calls {m : Nat} {k e n x y : Int} {L : List Int} {c n' x' y' : Int} {L' : List Int} (ac : ActCase k e n x y L c n' x' y' L') (inv : Inv m n x y) (hm : m ≤ 1000) (A : Option Addr) (cap : Nat) (w : World)
    (h : IsList w A L.length L) (hcap : L.length ≤ cap) (hl : L.length ≤ 1000) :
    (k = 0 ∧ Calls Try.prog 13 #[.agg #[.int .i64 n, .slice A L.length cap], .int .i64 e] w (RPost A n' L' c w)) ∨
    (k = 1 ∧ Calls Try.prog 14 #[.agg #[.int .i64 n, .slice A L.length cap], .int .i64 e] w (RPost A n' L' c w)) ∨
    ((k ≠ 0 ∧ k ≠ 1) ∧ Calls Try.prog 15 #[.agg #[.int .i64 n, .slice A L.length cap]] w (RPost A n' L' c w)) := by
  have n0 := inv.n0
  have n1 := inv.n1
  obtain ⟨-, -, cs⟩ := ac
  rcases cs with ⟨hk, he, rfl, rfl, rfl⟩ | ⟨hk, rfl, rfl, rfl, rfl⟩ | ⟨hk, he, rfl, rfl, rfl⟩ | ⟨hk, ⟨he0, he1, hno⟩, rfl, rfl, rfl⟩ | ⟨hk, ⟨he0, he1, j, hj, hat, hbef, rfl⟩, rfl, rfl⟩ | ⟨hk, hcnt, rfl, rfl, rfl⟩ | ⟨hk, hcnt, rfl, rfl, rfl⟩
  · exact .inl ⟨hk, rinject_err _ _ A cap _ w h hcap he⟩
  · exact .inl ⟨hk, rinject_ok _ A cap _ w h (by omega)⟩
  · exact .inr (.inl ⟨hk, rremove_range _ _ A cap _ w h hcap he⟩)
  · exact .inr (.inl ⟨hk, rremove_none _ _ A cap _ w h hcap (by omega) he0 he1 hno⟩)
  · exact .inr (.inl ⟨hk, rremove_ok _ _ A cap _ w j h hcap (by omega) he0 he1 hj hat hbef⟩)
  · exact .inr (.inr ⟨hk, radvance_state _ A cap _ w h hcap (by omega) (by omega) (by omega) hcnt⟩)
  · exact .inr (.inr ⟨hk, radvance_ok _ A cap _ w h hcap (by omega) (by omega) (by omega) hcnt⟩)

set_option maxRecDepth 100000 in
set_option maxHeartbeats 4000000 in
theorem walk (a0 : Option Addr) (len0 cap0 : Nat) (z0 : List (List Int)) (a1 : Int) (w : World) (w0 : IsStructs 2 w a0 len0 z0) (w1 : (Lit.int .i64 a1).wf = true) :
    Calls Try.prog 3 #[.slice a0 len0 cap0, .int .i64 a1] w fun e w' => e = .returned (.bool true) ∧ Below w.heap.size w w' := by
  obtain ⟨hm, hzl, hwf, hcells⟩ := w0
  clear w1
  unfold maxLen at hm
  by_cases hlen : 60 < len0
  · go_enter Try.func3, Try.ntmps3
    go_wp2_with fail
    refine (awake_any _).mono ?_
    rintro r w1 ⟨rfl, l1⟩
    go_wp2
    go_ret
    exact ⟨rfl, l1⟩
  have HC := Lib.hid hcells
  clear hzl hwf hcells
  go_enter Try.func3, Try.ntmps3
  go_wp2_with fail
  refine (awake_any _).mono ?_
  rintro r w1 ⟨rfl, l1⟩
  go_wp2_with fail
  refine (new_bk _).mono ?_
  rintro r w2 ⟨g, rfl, hg, b2, l2⟩
  have hg0 : w.heap.size ≤ g := Nat.le_trans l1.size hg
  have l3 : Below w.heap.size w w2 := l1.trans (l2.mono l1.size)
  have hgw : g < w2.heap.size := b2.lt
  clear l1 l2 hg
  have ST : Hid (Rel len0 w g w2.heap.size (.int .i64 0) (w2.alloc (.cells #[.int .i64 0, .slice none 0 0] 28))) :=
    ⟨0, Nat.zero_le _, rfl, 0, 0, 0, [], none, 0, Blk.alloc b2 _, Inv.start, sim_start, Nat.le_refl _, Nat.le_refl _, Blk.new _ _ _, IsList.nil _, (by intro x e; simp at e), l3.alloc l3.size _⟩
  go_wp2_with fail
  generalize w2.alloc (.cells #[.int .i64 0, .slice none 0 0] 28) = w3 at *
  generalize w2.heap.size = mb at *
  clear b2 l3
  go_loopw [18] (fun i wr => Rel len0 w g mb i wr) (fun i _ => len0 - (intOf i).toNat)
  case atStart => exact ST.out
  case round =>
    clear ST
    obtain ⟨k, hk, rfl, n, x, y, L, A, cap, b, inv, sim, hLk, hcap, bm, isl, ov, bel⟩ := hrel
    by_cases hlt : k < len0
    · obtain ⟨bb, off, ha0, hbb, hc⟩ := HC.out (by omega)
      have c0 : wr.cell? ⟨bb, off + k * 2, none⟩ = some (.int .i64 ((z0.getD k []).getD 0 0)) := (bel.cell (p := ⟨bb, off + k * 2, none⟩) hbb).trans (hc k 0 hlt (by omega))
      have c1 : wr.cell? ⟨bb, off + k * 2 + 1, none⟩ = some (.int .i64 ((z0.getD k []).getD 1 0)) := (bel.cell (p := ⟨bb, off + k * 2 + 1, none⟩) hbb).trans (hc k 1 hlt (by omega))
      clear hc
      subst ha0
      generalize (z0.getD k []).getD 0 0 = kk at *
      generalize (z0.getD k []).getD 1 0 = ee at *
      clear HC
      obtain ⟨c, n', x', y', L', ac⟩ := act_case kk ee n x y L inv (by omega) sim
      have LL := ac.length
      have inv' := inv.step ac.1
      have hmbr : mb < wr.heap.size := bm.lt
      obtain ⟨wa, hwa⟩ : ∃ wa, wa = wr.alloc (.cells #[.int .i64 kk, .int .i64 ee] 30) := ⟨_, rfl⟩
      have ba : Bk wa g n x y := hwa ▸ Blk.alloc b _
      have bma : Blk wa mb 28 #[.int .i64 n, .slice A L.length cap] := hwa ▸ Blk.alloc bm _
      have ta : Blk wa wr.heap.size 30 #[.int .i64 kk, .int .i64 ee] := hwa ▸ Blk.new _ _ _
      have isla : IsList wa A L.length L := hwa ▸ isl.below (Nat.le_refl _) ((Below.refl _ _).alloc (Nat.le_refl _) _)
      have bela : Below w.heap.size w wa := hwa ▸ bel.alloc bel.size _
      have ct0 : wa.cell? ⟨wr.heap.size, 0, none⟩ = some (.int .i64 kk) := ta.cell 0
      have ct1 : wa.cell? ⟨wr.heap.size, 0 + 1, none⟩ = some (.int .i64 ee) := ta.cell 1
      have cm0 : wa.cell? ⟨mb, 0, none⟩ = some (.int .i64 n) := bma.cell 0
      have cm1 : wa.cell? ⟨mb, 0 + 1, none⟩ = some (.slice A L.length cap) := bma.cell 1
      have cm0' : (wr.alloc (.cells #[.int .i64 kk, .int .i64 ee] 30)).cell? ⟨mb, 0, none⟩ = some (.int .i64 n) := hwa ▸ cm0
      have cm1' : (wr.alloc (.cells #[.int .i64 kk, .int .i64 ee] 30)).cell? ⟨mb, 0 + 1, none⟩ = some (.slice A L.length cap) := hwa ▸ cm1
      have HWA := Lib.hid hwa
      have sa : wr.heap.size < wa.heap.size := ta.lt
      clear hwa
      have ISLA := Lib.hid isla
      have SIM := Lib.hid sim
      have n1 := inv.n1
      have n0 := inv.n0
      have calls := act_calls ac inv (by omega) A cap wa isla hcap (by omega)
      have SIM' := Lib.hid ac.2.1
      have STP := Lib.hid ac.1
      have OV := Lib.hid ov
      have BA := Lib.hid ba
      have BM := Lib.hid bma
      have TA := Lib.hid ta
      have INV := Lib.hid inv
      have INV' := Lib.hid inv'
      clear ac ov sim isla isl b bm bel ba bma ta inv inv' ct0 ct1 cm0 cm1 SIM ISLA
      rcases calls with ⟨rfl, calls⟩ | ⟨rfl, calls⟩ | ⟨hk01, calls⟩
      · have CALLS := Lib.hid calls
        clear calls
        go_wp2_with fail
        rw [← HWA.out]
        refine CALLS.out.mono ?_
        clear CALLS HWA cm0' cm1' c0 c1
        rintro r w4 ⟨A', cap', rfl, hcap', isl4, hA', l4⟩
        have OV' : Hid (Over mb A') := by
          rcases hA' with rfl | h
          · exact OV.out
          · intro x e; have := h x e; omega
        have bm4 := Blk.below BM.out l4 (by omega)
        have bk4 : Bk w4 g n x y := Blk.below BA.out l4 (by omega)
        have tb4 := Blk.below TA.out l4 (by omega)
        have bel4 := bela.trans (l4.mono bela.size)
        clear hA' OV BM BA TA l4 bela
        have y0 : w4.cell? ⟨mb, 0, none⟩ = some (.int .i64 n) := bm4.cell 0
        have y1 : w4.cell? ⟨mb, 0 + 1, none⟩ = some (.slice A L.length cap) := bm4.cell 1
        have fy0 := bm4.frozen 0
        have fy1 := bm4.frozen (0 + 1)
        have B5 : Bk ((w4.setCell ⟨mb, 0, none⟩ (.int .i64 n')).setCell ⟨mb, 1, none⟩ (.slice A' L'.length cap')) g n x y := Blk.far (Blk.far bk4 (p := ⟨mb, 0, none⟩) (by simp; omega) _) (p := ⟨mb, 1, none⟩) (by simp; omega) _
        have T5 := Blk.far (Blk.far tb4 (p := ⟨mb, 0, none⟩) (by simp; omega) (.int .i64 n')) (p := ⟨mb, 1, none⟩) (by simp; omega) (.slice A' L'.length cap')
        have M5 : Blk ((w4.setCell ⟨mb, 0, none⟩ (.int .i64 n')).setCell ⟨mb, 1, none⟩ (.slice A' L'.length cap')) mb 28 #[.int .i64 n', .slice A' L'.length cap'] := (bm4.set_ 0 (.int .i64 n')).set_ 1 (.slice A' L'.length cap')
        have I5 := (isl4.setCell (p := ⟨mb, 0, none⟩) (fun x e => OV'.out x e) (.int .i64 n')).setCell (p := ⟨mb, 1, none⟩) (fun x e => OV'.out x e) (.slice A' L'.length cap')
        have L5 := (bel4.setCell (p := ⟨mb, 0, none⟩) (by simp; omega) (.int .i64 n')).setCell (p := ⟨mb, 1, none⟩) (by simp; omega) (.slice A' L'.length cap')
        go_wp2_with fail
        clear y0 y1 fy0 fy1 isl4 bm4 bk4 tb4 bel4
        generalize (w4.setCell ⟨mb, 0, none⟩ (.int .i64 n')).setCell ⟨mb, 1, none⟩ (.slice A' L'.length cap') = w5 at *
        generalize wr.heap.size = tb at *
        have hL' : L'.length ≤ 1000000 := by omega
        have ct0 : w5.cell? ⟨tb, 0, none⟩ = some (.int .i64 0) := T5.cell 0
        have ct1 : w5.cell? ⟨tb, 1, none⟩ = some (.int .i64 ee) := T5.cell 1
        have cm0 : w5.cell? ⟨mb, 0, none⟩ = some (.int .i64 n') := M5.cell 0
        have cm1 : w5.cell? ⟨mb, 1, none⟩ = some (.slice A' L'.length cap') := M5.cell 1
        have H5 := Lib.hid B5
        have HI5 := Lib.hid I5
        have tbl : tb < w5.heap.size := T5.lt
        have mbl : mb < w5.heap.size := M5.lt
        have ngt : some tb ≠ some g := by simp; omega
        have ngm : some mb ≠ some g := by simp; omega
        have n0' := INV'.out.n0
        have n1' := INV'.out.n1
        have hgmb : g < mb := by omega
        have OVG : Hid (∀ x : Addr, A' = some x → g < x.block) := fun x e => Nat.lt_trans hgmb (OV'.out x e)
        clear B5 I5
        go_region_held3 (fun w' => w'.cell? ⟨tb, 0, none⟩ = some (.int .i64 0) ∧ w'.cell? ⟨tb, 1, none⟩ = some (.int .i64 ee) ∧ w'.cell? ⟨mb, 0, none⟩ = some (.int .i64 n') ∧ w'.cell? ⟨mb, 1, none⟩ = some (.slice A' L'.length cap'))
          (first
            | go_keep
            | (go_split_ands
               refine ⟨?_, ?_, ?_, ?_⟩
               · (rw [gr6.cell_far _ (by simp; omega) ngt]; assumption)
               · (rw [gr6.cell_far _ (by simp; omega) ngt]; assumption)
               · (rw [gr6.cell_far _ (by simp; omega) ngm]; assumption)
               · (rw [gr6.cell_far _ (by simp; omega) ngm]; assumption)))
          (first
            | (go_at_call 16; refine (do_det k 0 ee n x y c n' x' y' g _ ?_ INV.out (by omega) STP.out).mono ?_; exact H5.out; rintro r w6 ⟨rfl, b6, gr6⟩; have I6 : IsList w6 A' L'.length L' := list_grown (w := w5.drew) HI5.out gr6 OVG.out)
            | (go_at_call 17; refine (now_any g n' x' y' _ ?_).mono ?_; exact b6; rintro r w' ⟨rfl, rfl⟩)
            | (go_at_call 18; refine (alive_any g n' x' y' _ _ ?_ (by omega) (by omega)).mono ?_; (first | exact b6 | exact Blk.alloc b6 _ | exact Blk.alloc (Blk.alloc b6 _) _); rintro r w' ⟨rfl, rfl⟩)
            | (go_at_call 19; refine (rcount_sim SIM'.out _ _ A' cap' _ hL' ?_).mono ?_; (first | exact I6 | exact I6.below (Nat.le_refl _) ((Below.refl _ _).alloc (Nat.le_refl _) _) | exact I6.below (Nat.le_refl _) (below2 _ _ _)); rintro r w' ⟨rfl, rfl⟩))
        have R : Hid (Rel len0 w g mb (.int .i64 ((k + 1 : Nat) : Int)) (((w6.alloc (.cells #[.int .i64 n', .slice A' L'.length cap'] 28)).alloc (.cells #[.int .i64 n', .slice A' L'.length cap'] 28)).alloc (.cells #[.int .i64 n', .slice A' L'.length cap'] 28))) := by
          refine Rel.alloc (Rel.alloc (Rel.alloc ?_ _) _) _
          have gr6' : w5.grownBy w6 (some g) := ⟨gr6.os, gr6.tape, gr6.output, gr6.size, gr6.block⟩
          exact ⟨k + 1, by omega, rfl, n', x', y', L', A', cap', b6, INV'.out, SIM'.out, by omega, hcap', Blk.grown M5 gr6' ngm, I6, OV'.out, L5.grown gr6' L5.size (by intro q e; injection e with e; omega)⟩
        clear I6 gr6 b6
        go_wp2
        exact ⟨by simpa using R.out, by simp [intOf]; omega⟩
      · have CALLS := Lib.hid calls
        clear calls
        go_wp2_with fail
        rw [← HWA.out]
        refine CALLS.out.mono ?_
        clear CALLS HWA cm0' cm1' c0 c1
        rintro r w4 ⟨A', cap', rfl, hcap', isl4, hA', l4⟩
        have OV' : Hid (Over mb A') := by
          rcases hA' with rfl | h
          · exact OV.out
          · intro x e; have := h x e; omega
        have bm4 := Blk.below BM.out l4 (by omega)
        have bk4 : Bk w4 g n x y := Blk.below BA.out l4 (by omega)
        have tb4 := Blk.below TA.out l4 (by omega)
        have bel4 := bela.trans (l4.mono bela.size)
        clear hA' OV BM BA TA l4 bela
        have y0 : w4.cell? ⟨mb, 0, none⟩ = some (.int .i64 n) := bm4.cell 0
        have y1 : w4.cell? ⟨mb, 0 + 1, none⟩ = some (.slice A L.length cap) := bm4.cell 1
        have fy0 := bm4.frozen 0
        have fy1 := bm4.frozen (0 + 1)
        have B5 : Bk ((w4.setCell ⟨mb, 0, none⟩ (.int .i64 n')).setCell ⟨mb, 1, none⟩ (.slice A' L'.length cap')) g n x y := Blk.far (Blk.far bk4 (p := ⟨mb, 0, none⟩) (by simp; omega) _) (p := ⟨mb, 1, none⟩) (by simp; omega) _
        have T5 := Blk.far (Blk.far tb4 (p := ⟨mb, 0, none⟩) (by simp; omega) (.int .i64 n')) (p := ⟨mb, 1, none⟩) (by simp; omega) (.slice A' L'.length cap')
        have M5 : Blk ((w4.setCell ⟨mb, 0, none⟩ (.int .i64 n')).setCell ⟨mb, 1, none⟩ (.slice A' L'.length cap')) mb 28 #[.int .i64 n', .slice A' L'.length cap'] := (bm4.set_ 0 (.int .i64 n')).set_ 1 (.slice A' L'.length cap')
        have I5 := (isl4.setCell (p := ⟨mb, 0, none⟩) (fun x e => OV'.out x e) (.int .i64 n')).setCell (p := ⟨mb, 1, none⟩) (fun x e => OV'.out x e) (.slice A' L'.length cap')
        have L5 := (bel4.setCell (p := ⟨mb, 0, none⟩) (by simp; omega) (.int .i64 n')).setCell (p := ⟨mb, 1, none⟩) (by simp; omega) (.slice A' L'.length cap')
        go_wp2_with fail
        clear y0 y1 fy0 fy1 isl4 bm4 bk4 tb4 bel4
        generalize (w4.setCell ⟨mb, 0, none⟩ (.int .i64 n')).setCell ⟨mb, 1, none⟩ (.slice A' L'.length cap') = w5 at *
        generalize wr.heap.size = tb at *
        have hL' : L'.length ≤ 1000000 := by omega
        have ct0 : w5.cell? ⟨tb, 0, none⟩ = some (.int .i64 1) := T5.cell 0
        have ct1 : w5.cell? ⟨tb, 1, none⟩ = some (.int .i64 ee) := T5.cell 1
        have cm0 : w5.cell? ⟨mb, 0, none⟩ = some (.int .i64 n') := M5.cell 0
        have cm1 : w5.cell? ⟨mb, 1, none⟩ = some (.slice A' L'.length cap') := M5.cell 1
        have H5 := Lib.hid B5
        have HI5 := Lib.hid I5
        have tbl : tb < w5.heap.size := T5.lt
        have mbl : mb < w5.heap.size := M5.lt
        have ngt : some tb ≠ some g := by simp; omega
        have ngm : some mb ≠ some g := by simp; omega
        have n0' := INV'.out.n0
        have n1' := INV'.out.n1
        have hgmb : g < mb := by omega
        have OVG : Hid (∀ x : Addr, A' = some x → g < x.block) := fun x e => Nat.lt_trans hgmb (OV'.out x e)
        clear B5 I5
        go_region_held3 (fun w' => w'.cell? ⟨tb, 0, none⟩ = some (.int .i64 1) ∧ w'.cell? ⟨tb, 1, none⟩ = some (.int .i64 ee) ∧ w'.cell? ⟨mb, 0, none⟩ = some (.int .i64 n') ∧ w'.cell? ⟨mb, 1, none⟩ = some (.slice A' L'.length cap'))
          (first
            | go_keep
            | (go_split_ands
               refine ⟨?_, ?_, ?_, ?_⟩
               · (rw [gr6.cell_far _ (by simp; omega) ngt]; assumption)
               · (rw [gr6.cell_far _ (by simp; omega) ngt]; assumption)
               · (rw [gr6.cell_far _ (by simp; omega) ngm]; assumption)
               · (rw [gr6.cell_far _ (by simp; omega) ngm]; assumption)))
          (first
            | (go_at_call 16; refine (do_det k 1 ee n x y c n' x' y' g _ ?_ INV.out (by omega) STP.out).mono ?_; exact H5.out; rintro r w6 ⟨rfl, b6, gr6⟩; have I6 : IsList w6 A' L'.length L' := list_grown (w := w5.drew) HI5.out gr6 OVG.out)
            | (go_at_call 17; refine (now_any g n' x' y' _ ?_).mono ?_; exact b6; rintro r w' ⟨rfl, rfl⟩)
            | (go_at_call 18; refine (alive_any g n' x' y' _ _ ?_ (by omega) (by omega)).mono ?_; (first | exact b6 | exact Blk.alloc b6 _ | exact Blk.alloc (Blk.alloc b6 _) _); rintro r w' ⟨rfl, rfl⟩)
            | (go_at_call 19; refine (rcount_sim SIM'.out _ _ A' cap' _ hL' ?_).mono ?_; (first | exact I6 | exact I6.below (Nat.le_refl _) ((Below.refl _ _).alloc (Nat.le_refl _) _) | exact I6.below (Nat.le_refl _) (below2 _ _ _)); rintro r w' ⟨rfl, rfl⟩))
        have R : Hid (Rel len0 w g mb (.int .i64 ((k + 1 : Nat) : Int)) (((w6.alloc (.cells #[.int .i64 n', .slice A' L'.length cap'] 28)).alloc (.cells #[.int .i64 n', .slice A' L'.length cap'] 28)).alloc (.cells #[.int .i64 n', .slice A' L'.length cap'] 28))) := by
          refine Rel.alloc (Rel.alloc (Rel.alloc ?_ _) _) _
          have gr6' : w5.grownBy w6 (some g) := ⟨gr6.os, gr6.tape, gr6.output, gr6.size, gr6.block⟩
          exact ⟨k + 1, by omega, rfl, n', x', y', L', A', cap', b6, INV'.out, SIM'.out, by omega, hcap', Blk.grown M5 gr6' ngm, I6, OV'.out, L5.grown gr6' L5.size (by intro q e; injection e with e; omega)⟩
        clear I6 gr6 b6
        go_wp2
        exact ⟨by simpa using R.out, by simp [intOf]; omega⟩
      · have hk0 : (kk == 0) = false := by rw [beq_eq_false_iff_ne]; exact hk01.1
        have hk1 : (kk == 1) = false := by rw [beq_eq_false_iff_ne]; exact hk01.2
        clear hk01
        have CALLS := Lib.hid calls
        clear calls
        go_wp2_with fail
        rw [← HWA.out]
        refine CALLS.out.mono ?_
        clear CALLS HWA cm0' cm1' c0 c1
        rintro r w4 ⟨A', cap', rfl, hcap', isl4, hA', l4⟩
        have OV' : Hid (Over mb A') := by
          rcases hA' with rfl | h
          · exact OV.out
          · intro x e; have := h x e; omega
        have bm4 := Blk.below BM.out l4 (by omega)
        have bk4 : Bk w4 g n x y := Blk.below BA.out l4 (by omega)
        have tb4 := Blk.below TA.out l4 (by omega)
        have bel4 := bela.trans (l4.mono bela.size)
        clear hA' OV BM BA TA l4 bela
        have y0 : w4.cell? ⟨mb, 0, none⟩ = some (.int .i64 n) := bm4.cell 0
        have y1 : w4.cell? ⟨mb, 0 + 1, none⟩ = some (.slice A L.length cap) := bm4.cell 1
        have fy0 := bm4.frozen 0
        have fy1 := bm4.frozen (0 + 1)
        have B5 : Bk ((w4.setCell ⟨mb, 0, none⟩ (.int .i64 n')).setCell ⟨mb, 1, none⟩ (.slice A' L'.length cap')) g n x y := Blk.far (Blk.far bk4 (p := ⟨mb, 0, none⟩) (by simp; omega) _) (p := ⟨mb, 1, none⟩) (by simp; omega) _
        have T5 := Blk.far (Blk.far tb4 (p := ⟨mb, 0, none⟩) (by simp; omega) (.int .i64 n')) (p := ⟨mb, 1, none⟩) (by simp; omega) (.slice A' L'.length cap')
        have M5 : Blk ((w4.setCell ⟨mb, 0, none⟩ (.int .i64 n')).setCell ⟨mb, 1, none⟩ (.slice A' L'.length cap')) mb 28 #[.int .i64 n', .slice A' L'.length cap'] := (bm4.set_ 0 (.int .i64 n')).set_ 1 (.slice A' L'.length cap')
        have I5 := (isl4.setCell (p := ⟨mb, 0, none⟩) (fun x e => OV'.out x e) (.int .i64 n')).setCell (p := ⟨mb, 1, none⟩) (fun x e => OV'.out x e) (.slice A' L'.length cap')
        have L5 := (bel4.setCell (p := ⟨mb, 0, none⟩) (by simp; omega) (.int .i64 n')).setCell (p := ⟨mb, 1, none⟩) (by simp; omega) (.slice A' L'.length cap')
        go_wp2_with fail
        clear y0 y1 fy0 fy1 isl4 bm4 bk4 tb4 bel4
        generalize (w4.setCell ⟨mb, 0, none⟩ (.int .i64 n')).setCell ⟨mb, 1, none⟩ (.slice A' L'.length cap') = w5 at *
        generalize wr.heap.size = tb at *
        have hL' : L'.length ≤ 1000000 := by omega
        have ct0 : w5.cell? ⟨tb, 0, none⟩ = some (.int .i64 kk) := T5.cell 0
        have ct1 : w5.cell? ⟨tb, 1, none⟩ = some (.int .i64 ee) := T5.cell 1
        have cm0 : w5.cell? ⟨mb, 0, none⟩ = some (.int .i64 n') := M5.cell 0
        have cm1 : w5.cell? ⟨mb, 1, none⟩ = some (.slice A' L'.length cap') := M5.cell 1
        have H5 := Lib.hid B5
        have HI5 := Lib.hid I5
        have tbl : tb < w5.heap.size := T5.lt
        have mbl : mb < w5.heap.size := M5.lt
        have ngt : some tb ≠ some g := by simp; omega
        have ngm : some mb ≠ some g := by simp; omega
        have n0' := INV'.out.n0
        have n1' := INV'.out.n1
        have hgmb : g < mb := by omega
        have OVG : Hid (∀ x : Addr, A' = some x → g < x.block) := fun x e => Nat.lt_trans hgmb (OV'.out x e)
        clear B5 I5
        go_region_held3 (fun w' => w'.cell? ⟨tb, 0, none⟩ = some (.int .i64 kk) ∧ w'.cell? ⟨tb, 1, none⟩ = some (.int .i64 ee) ∧ w'.cell? ⟨mb, 0, none⟩ = some (.int .i64 n') ∧ w'.cell? ⟨mb, 1, none⟩ = some (.slice A' L'.length cap'))
          (first
            | go_keep
            | (go_split_ands
               refine ⟨?_, ?_, ?_, ?_⟩
               · (rw [gr6.cell_far _ (by simp; omega) ngt]; assumption)
               · (rw [gr6.cell_far _ (by simp; omega) ngt]; assumption)
               · (rw [gr6.cell_far _ (by simp; omega) ngm]; assumption)
               · (rw [gr6.cell_far _ (by simp; omega) ngm]; assumption)))
          (first
            | (go_at_call 16; refine (do_det k kk ee n x y c n' x' y' g _ ?_ INV.out (by omega) STP.out).mono ?_; exact H5.out; rintro r w6 ⟨rfl, b6, gr6⟩; have I6 : IsList w6 A' L'.length L' := list_grown (w := w5.drew) HI5.out gr6 OVG.out)
            | (go_at_call 17; refine (now_any g n' x' y' _ ?_).mono ?_; exact b6; rintro r w' ⟨rfl, rfl⟩)
            | (go_at_call 18; refine (alive_any g n' x' y' _ _ ?_ (by omega) (by omega)).mono ?_; (first | exact b6 | exact Blk.alloc b6 _ | exact Blk.alloc (Blk.alloc b6 _) _); rintro r w' ⟨rfl, rfl⟩)
            | (go_at_call 19; refine (rcount_sim SIM'.out _ _ A' cap' _ hL' ?_).mono ?_; (first | exact I6 | exact I6.below (Nat.le_refl _) ((Below.refl _ _).alloc (Nat.le_refl _) _) | exact I6.below (Nat.le_refl _) (below2 _ _ _)); rintro r w' ⟨rfl, rfl⟩))
        have R : Hid (Rel len0 w g mb (.int .i64 ((k + 1 : Nat) : Int)) (((w6.alloc (.cells #[.int .i64 n', .slice A' L'.length cap'] 28)).alloc (.cells #[.int .i64 n', .slice A' L'.length cap'] 28)).alloc (.cells #[.int .i64 n', .slice A' L'.length cap'] 28))) := by
          refine Rel.alloc (Rel.alloc (Rel.alloc ?_ _) _) _
          have gr6' : w5.grownBy w6 (some g) := ⟨gr6.os, gr6.tape, gr6.output, gr6.size, gr6.block⟩
          exact ⟨k + 1, by omega, rfl, n', x', y', L', A', cap', b6, INV'.out, SIM'.out, by omega, hcap', Blk.grown M5 gr6' ngm, I6, OV'.out, L5.grown gr6' L5.size (by intro q e; injection e with e; omega)⟩
        clear I6 gr6 b6
        go_wp2
        exact ⟨by simpa using R.out, by simp [intOf]; omega⟩
    · go_wp2
      go_ret
      exact ⟨rfl, bel⟩
end Go.Proofs.Ytkdgfjjljokkhaa.epochPlaysW
