/- The walk of the law ChannelCycles. -/
import Derived.Test.YtlhblaemoejefaaCAwake
import Derived.Test.YtlhblaemoejefaaCAcy
import Derived.Test.YtlhblaemoejefaaCCont
namespace Go.Proofs.Ytlhblaemoejefaa.channelCyclesW
open Go.RowKit Go.Maps Go.Sort Go.Shelf
set_option linter.unusedVariables false

theorem nodup_len {C S : List Int} (h : C.Nodup) (hs : ∀ x ∈ C, x ∈ S) : C.length ≤ S.length := by
  induction C generalizing S with
  | nil => simp
  | cons x C ih =>
    obtain ⟨h1, h2⟩ := List.nodup_cons.1 h
    have hx := hs x (List.mem_cons_self ..)
    have h3 := ih (S := S.erase x) h2 (fun y hy => (List.mem_erase_of_ne (by rintro rfl; exact h1 hy)).2 (hs y (List.mem_cons_of_mem _ hy)))
    rw [List.length_erase_of_mem hx] at h3
    have := List.length_pos_of_mem hx
    simp; omega
def RelL (n : Nat) (w0 : World) (i : Value) (wr : World) : Prop := ∃ k : Nat, k ≤ n ∧ i = .int .i64 k ∧ Below w0.heap.size w0 wr
set_option maxRecDepth 100000 in
set_option maxHeartbeats 8000000 in
theorem walk (A1 : Option Addr) (c1 : Nat) (l : List Dp) (w : World) (h1 : IsRec 3 cD d0 w A1 l.length l) (wd1 : WfD l) :
    Calls Try.prog 7 #[.slice A1 l.length c1] w fun e w' => e = .returned (.bool true) ∧ Below w.heap.size w w' := by
  have H1 := Lib.hid h1
  have W1 := Lib.hid wd1
  clear h1 wd1
  go_enter Try.func7, Try.ntmps7
  go_wp2_with fail
  refine (awake20_any _).mono ?_
  rintro e w1 ⟨rfl, bel⟩
  have B1 := Lib.hid bel
  clear bel
  by_cases hg : 60 < l.length
  · have q1i : (60 : Int) < (l.length : Int) := by omega
    go_wp2_with fail
    go_ret
    exact ⟨rfl, B1.out⟩
  · have q1i : (l.length : Int) ≤ 60 := by omega
    have q1 : l.length ≤ 60 := by omega
    clear hg
    go_wp2_with fail
    refine (cloneD_any A1 c1 l w1 (by omega) (H1.out.below (Nat.le_refl _) B1.out)).mono ?_
    rintro e w2 ⟨xa, xc, rfl, _, _, rx, bel⟩
    have B2 : Hid (Below w.heap.size w w2) := B1.out.trans (bel.mono B1.out.size)
    have RX := Lib.hid rx
    clear bel rx
    go_wp2_with fail
    refine (cycle_any l A1 c1 w2 (by omega) W1.out (H1.out.below (Nat.le_refl _) B2.out)).mono ?_
    rintro e w3 ⟨v3, rfl, own3, bel⟩
    obtain ⟨ca, cc, hv3, hcc, rc, _⟩ := rec_of_own (d := (0 : Int)) cI_length (by decide) own3
    subst hv3
    have B3 : Hid (Below w.heap.size w w3) := B2.out.trans (bel.mono B2.out.size)
    have RX3 := Lib.hid (RX.out.below (Nat.le_refl _) bel)
    have RC := Lib.hid rc
    have SPEC := Lib.hid (cycD_spec l)
    generalize cycD l = C at *
    clear bel rc own3 RX
    have E1 := Lib.hid (eqD_any l l A1 xa c1 xc w3 (by omega) (by omega) (H1.out.below (Nat.le_refl _) B3.out) RX3.out)
    go_wp2_with fail
    refine E1.out.mono ?_
    rintro e w4 ⟨rfl, bel⟩
    have B4 : Hid (Below w3.heap.size w3 w4) := bel
    clear bel E1 RX3
    have E1 := Lib.hid (plain20_any l A1 c1 w4 (by omega) (H1.out.below (Nat.le_refl _) (B3.out.trans (B4.out.mono B3.out.size))))
    go_wp2_with fail
    refine E1.out.mono ?_
    rintro e w5 ⟨v5, rfl, own5, bel⟩
    obtain ⟨pa, pc, hv5, _, rp, _⟩ := rec_of_own (d := d0) (c := cD) (fun _ => rfl) (by decide) own5
    subst hv5
    have B5 : Hid (Below w3.heap.size w3 w5) := B4.out.trans (bel.mono B4.out.size)
    have E2 := Lib.hid (acyclic20_any l pa pc w5 (by omega) rp)
    clear bel E1 own5 rp
    go_wp2_with fail
    refine E2.out.mono ?_
    rintro e w6 ⟨rfl, bel⟩
    have B6 : Hid (Below w3.heap.size w3 w6) := B5.out.trans (bel.mono B5.out.size)
    clear bel E2
    have RC6 : Hid (IsRec 1 cI 0 w6 ca C.length C) := RC.out.below (Nat.le_refl _) B6.out
    have H16 : Hid (IsRec 3 cD d0 w6 A1 l.length l) := H1.out.below (Nat.le_refl _) (B3.out.trans (B6.out.mono B3.out.size))
    have BW6 : Hid (Below w.heap.size w w6) := B3.out.trans (B6.out.mono B3.out.size)
    rcases SPEC.out with ⟨hne, hac, hnd, hed⟩ | ⟨hnil, hac⟩
    · have hpos : 0 < C.length := List.length_pos_iff.2 hne
      have hz : ((C.length : Int) == 0) = false := by simp; omega
      have ND := Lib.hid hnd
      have ED := Lib.hid hed
      have hCl : C.length ≤ l.length := by
        have := nodup_len (S := l.map (·.1)) hnd (fun x hx => by
          obtain ⟨i, hi, rfl⟩ := List.mem_iff_getElem.1 hx
          obtain ⟨d, hd, e1, _⟩ := hed i hi
          have : C.getD i 0 = C[i] := by simp [List.getD, hi]
          rw [← this, ← e1]
          exact List.mem_map.2 ⟨d, hd, rfl⟩)
        simpa using this
      rw [hac]
      clear hne hac hnd hed SPEC
      go_wp2_with fail
      go_loopw [32] (fun i wr => RelL C.length w6 i wr) (fun i _ => C.length - (RowKit.intOf i).toNat)
      case atStart => exact ⟨0, Nat.zero_le _, rfl, Below.refl _ _⟩
      case round =>
        obtain ⟨k, hk, rfl, bel⟩ := hrel
        have BE := Lib.hid bel
        clear bel
        by_cases hkr : k < C.length
        · obtain ⟨b1, o1, ha1, hb1, hm1, e1⟩ := int_at (RC6.out.below (Nat.le_refl _) BE.out) k hkr
          obtain ⟨m, hm⟩ : ∃ m : Nat, (k + 1) % C.length = m := ⟨_, rfl⟩
          have hml : m < C.length := by rw [← hm]; exact Nat.mod_lt _ hpos
          obtain ⟨b2, o2, ha2, hb2, hm2, e2⟩ := int_at (RC6.out.below (Nat.le_refl _) BE.out) m hml
          have ex : C.getD k 0 = C[k] := by simp [List.getD, hkr]
          have NI : Hid ((C.take k).any (fun z => C.getD k 0 == z) = false) := by
            rw [Hid, List.any_eq_false]
            intro z hz he
            have he' : C.getD k 0 = z := by simpa using he
            rw [ex] at he'
            obtain ⟨q, hq, hqz⟩ := List.mem_take_iff_getElem.1 hz
            have h3 : C[q]'(by omega) = C[k] := by rw [hqz, he']
            exact (List.pairwise_iff_getElem.1 ND.out q k (by omega) hkr (by omega)) h3
          have LD : Hid (l.any (leadB (C.getD k 0) (C.getD m 0)) = true) := by
            obtain ⟨d, hd, e1, e2⟩ := ED.out k hkr
            rw [hm] at e2
            exact List.any_eq_true.2 ⟨d, hd, by unfold leadB; rw [e1, e2]; simp⟩
          clear ex
          generalize C.getD k 0 = x at *
          generalize C.getD m 0 = y at *
          rw [ha1] at ha2
          injection ha2 with ha2
          injection ha2 with ha3 ha4
          subst ha3
          subst ha4
          subst ha1
          have i2 : (k : Int) < (C.length : Int) := by omega
          have i3 : (m : Int) < (C.length : Int) := by omega
          have i4 : (k : Int) ≤ (cc : Int) := by omega
          have hq1 : IntKind.i64.wrap ((k : Int) + 1) = (k : Int) + 1 := IntWalk.i64_in _ (by omega)
          have hq3 : ((k : Int) + 1).tmod (C.length : Int) = (m : Int) := by
            rw [← hm, Int.tmod_eq_emod_of_nonneg (by omega)]; simp
          have hq2 : C.length ≠ 0 := by omega
          obtain ⟨wx, hwx⟩ : ∃ wx : World, (wr.alloc (.cells #[.int .i64 x] 3)).alloc (.cells #[.int .i64 y] 3) = wx := ⟨_, rfl⟩
          have bx : Below wr.heap.size wr wx := by rw [← hwx]; exact ((Below.refl _ _).alloc (Nat.le_refl _) _).alloc (by simp) _
          have s0 : wx.cell? ⟨wr.heap.size, 0, none⟩ = some (.int .i64 x) := by rw [← hwx]; simp [go_sem]
          have s1 : wx.cell? ⟨wr.heap.size + 1, 0, none⟩ = some (.int .i64 y) := by rw [← hwx]; simp [go_sem]
          have szx : wr.heap.size + 1 < wx.heap.size := by rw [← hwx]; simp
          have BX : Hid (Below w6.heap.size w6 wx) := BE.out.trans (bx.mono BE.out.size)
          have RCX : Hid (IsRec 1 cI 0 wx.drew (some ⟨b1, o1, none⟩) (C.take k).length (C.take k)) := by
            have h := isRec_take (RC6.out.below (Nat.le_refl _) (BX.out.drew)) k (by omega)
            rw [List.length_take, Nat.min_eq_left (by omega)]; exact h
          have hkt : (C.take k).length = k := by rw [List.length_take]; omega
          have CI := Lib.hid (contI_any x (C.take k) (some ⟨b1, o1, none⟩) cc wx.drew (by rw [hkt]; omega) RCX.out)
          rw [hkt, NI.out] at CI
          have CF := Lib.hid (contFD_any x y wr.heap.size (wr.heap.size + 1) l A1 c1 wx.drew (by omega) (H16.out.below (Nat.le_refl _) (BX.out.drew)) (by show wr.heap.size < wx.heap.size; omega) (by show _ < wx.heap.size; exact szx) s0 s1)
          rw [LD.out] at CF
          have HWX := Lib.hid hwx
          clear hm hm1 hm2 hwx bx NI LD RCX hkt
          go_wp2_with fail
          rw [HWX.out]
          clear HWX e1 e2
          go_region_held3 (fun W => W.cell? ⟨wr.heap.size, 0, none⟩ = some (.int .i64 x))
            (first | exact s0 | exact KX.out)
            (first
              | (go_at_call 29; refine CI.out.mono ?_; rintro e w' ⟨rfl, rfl⟩)
              | (go_at_call 30; refine CF.out.mono ?_; rintro e w9 ⟨rfl, bel9⟩; have B9 : Hid (Below w6.heap.size w6 w9) := (BX.out.drew).trans (bel9.mono BX.out.size); have KX : Hid (w9.cell? ⟨wr.heap.size, 0, none⟩ = some (.int .i64 x)) := (bel9.cell (p := ⟨wr.heap.size, 0, none⟩) (by show wr.heap.size < wx.heap.size; omega)).trans s0; clear bel9))
          all_goals
            have R : Hid (RelL C.length w6 (.int .i64 ((k + 1 : Nat) : Int)) w9) := ⟨k + 1, by omega, rfl, B9.out⟩
            clear s0 s1 CI CF
            go_wp2_with fail
            exact ⟨by simpa using R.out, by simp [RowKit.intOf]; omega⟩
        · obtain rfl : k = C.length := by omega
          have F : Hid (Below w.heap.size w wr) := BW6.out.trans (BE.out.mono BW6.out.size)
          go_wp2_with fail
          go_ret
          exact ⟨rfl, F.out⟩
    · subst hnil
      rw [hac]
      clear SPEC hac
      go_wp2_with fail
      go_loopw [32] (fun i wr => RelL 0 w6 i wr) (fun i _ => 0)
      case atStart => exact ⟨0, Nat.zero_le _, rfl, Below.refl _ _⟩
      case round =>
        obtain ⟨k, hk, rfl, bel⟩ := hrel
        obtain rfl : k = 0 := by omega
        have F : Hid (Below w.heap.size w wr) := BW6.out.trans (bel.mono BW6.out.size)
        clear bel
        go_wp2_with fail
        go_ret
        exact ⟨rfl, F.out⟩
end Go.Proofs.Ytlhblaemoejefaa.channelCyclesW
