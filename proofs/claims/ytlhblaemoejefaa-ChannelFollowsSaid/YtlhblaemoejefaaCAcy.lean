/- The contract of the reference's Acyclic. -/
import Derived.Test.YtlhblaemoejefaaCAcyP
import Derived.Test.YtlhblaemoejefaaCRef4
namespace Go.Proofs.Ytlhblaemoejefaa
open Go.RowKit Go.Maps Go.Sort Go.Shelf
set_option linter.unusedVariables false

def lenV : Value → Nat
  | .slice _ n _ => n
  | _ => 0
def RelAc (l : List Dp) (w0 : World) (v : Value) (wr : World) : Prop :=
  ∃ L : List Dp, ∃ a c, L.length ≤ l.length ∧ v = .slice a L.length c ∧ IsRec 3 cD d0 wr a L.length L ∧ acyclicR L = acyclicR l ∧ Below w0.heap.size w0 wr
def RelAc2 (L : List Dp) (wa : World) (v i : Value) (wr : World) : Prop :=
  ∃ k : Nat, k ≤ L.length ∧ i = .int .i64 k ∧ wr.ownsRow wa.heap.size 34 3 v ((L.take k).filter (reachB L)).length (((L.take k).filter (reachB L)).flatMap cD) ∧ Below wa.heap.size wa wr
def anyT (L : List Dp) (f : Int) (j : Nat) : Bool := (L.take j).any fun y => y.2.1 == f
def RelAc3 (L : List Dp) (f : Int) (wb : World) (b i : Value) (wr : World) : Prop :=
  ∃ j : Nat, j ≤ L.length ∧ i = .int .i64 j ∧ b = .bool (anyT L f j) ∧ ∃ n, wr = wb.drewN n
theorem anyT_snoc (L : List Dp) (f : Int) (j : Nat) (h : j < L.length) : anyT L f (j + 1) = (anyT L f j || (L.getD j d0).2.1 == f) := by
  unfold anyT; rw [take_snocG d0 L j h, List.any_append]; simp
theorem filt_snoc (L : List Dp) (j : Nat) (h : j < L.length) (b : Bool) (hb : reachB L (L.getD j d0) = b) : (L.take (j + 1)).filter (reachB L) = (L.take j).filter (reachB L) ++ (if b then [L.getD j d0] else []) := by
  rw [take_snocG d0 L j h, List.filter_append]
  generalize L.getD j d0 = x at *
  cases b <;> simp [hb]
set_option maxRecDepth 100000 in
set_option maxHeartbeats 4000000 in
theorem acyclic20_any (l : List Dp) (a : Option Addr) (c : Nat) (w : World) (hl : l.length ≤ 1000000) (h : IsRec 3 cD d0 w a l.length l) :
    Calls Try.prog 28 #[.slice a l.length c] w fun e w' => e = .returned (.bool (acyclicR l)) ∧ Below w.heap.size w w' := by
  obtain ⟨i0, hi0, hz0, hz1, hz2⟩ := info_parts infoR20D
  have H := Lib.hid h
  clear h
  go_enter Try.func28, Try.ntmps28
  go_wp2_with fail
  go_loopw [0] (fun v wr => RelAc l w v wr) (fun v _ => lenV v)
  case atStart => exact ⟨l, a, c, Nat.le_refl _, rfl, H.out, rfl, Below.refl _ _⟩
  case round =>
    obtain ⟨L, av, cv, hle, rfl, hr, hac, bel⟩ := hrel
    clear H
    have AC := Lib.hid hac
    have BE := Lib.hid bel
    have HR := Lib.hid hr
    clear hac bel hr
    obtain ⟨wa, hwa⟩ : ∃ wa, wa = wr := ⟨_, rfl⟩
    subst hwa
    by_cases hL : L = []
    · subst hL
      have F : Hid (acyclicR l = true) := by rw [Hid, ← AC.out]; rfl
      go_wp2_with fail
      go_ret
      exact ⟨by rw [F.out]; rfl, BE.out⟩
    · have hpos : 0 < L.length := List.length_pos_iff.2 hL
      have hposi : (0 : Int) < (L.length : Int) := by omega
      have ST := Lib.hid (acyclicR_step L hL)
      clear hL
      go_wp2_with fail
      go_loopw [3, 4] (fun v i wr => RelAc2 L wa v i wr) (fun _ i _ => L.length - (RowKit.intOf i).toNat)
      case atStart => exact ⟨0, Nat.zero_le _, rfl, World.ownsRow_nil _ _ _ _, Below.refl _ _⟩
      case round =>
        obtain ⟨k, hk, rfl, own, bel⟩ := hrel
        have szr := bel.size
        have BL := Lib.hid bel
        have OW := Lib.hid own
        have BW : Hid (Below w.heap.size w wr) := BE.out.trans (bel.mono BE.out.size)
        clear own bel
        obtain ⟨wb, hwb⟩ : ∃ wb, wb = wr := ⟨_, rfl⟩
        subst hwb
        by_cases hkr : k < L.length
        · have i2 : (k : Int) < (L.length : Int) := by omega
          obtain ⟨b1, o1, ha1, hb1, hm1, e0, e1, e2⟩ := dep_at (HR.out.below (Nat.le_refl _) BL.out) k hkr
          have FS := Lib.hid (filt_snoc L k hkr)
          have RX : Hid (reachB L (L.getD k d0) = anyT L (L.getD k d0).1 L.length) := by rw [Hid]; unfold anyT reachB; rw [List.take_length]
          generalize L.getD k d0 = x at *
          subst ha1
          obtain ⟨x0, x1, x2⟩ := x
          simp only at e0 e1 e2 RX
          clear hm1
          have HRB : Hid (IsRec 3 cD d0 wb (some ⟨b1, o1, none⟩) L.length L) := HR.out.below (Nat.le_refl _) BL.out
          go_wp2_with fail
          go_loopw [5, 6] (fun b i wr => RelAc3 L x0 wb b i wr) (fun _ i _ => L.length - (RowKit.intOf i).toNat)
          case atStart => exact ⟨0, Nat.zero_le _, rfl, by simp [anyT], 0, by simp [World.drewN]⟩
          case round =>
            obtain ⟨j, hj, rfl, rfl, nn, rfl⟩ := hrel
            by_cases hjr : j < L.length
            · have j2 : (j : Int) < (L.length : Int) := by omega
              obtain ⟨b2, o2, ha2, hb2, hm2, f0, f1, f2⟩ := dep_at HRB.out j hjr
              injection ha2 with ha2
              injection ha2 with ha3 ha4
              subst ha3
              subst ha4
              have AS := Lib.hid (anyT_snoc L x0 j hjr)
              generalize L.getD j d0 = y at *
              obtain ⟨y0, y1, y2⟩ := y
              simp only at f0 f1 f2 AS
              have RN : Hid (∀ b m, anyT L x0 (j + 1) = b → RelAc3 L x0 wb (.bool b) (.int .i64 ((j + 1 : Nat) : Int)) ((wb.drewN nn).drewN m)) := fun b m hb => ⟨j + 1, by omega, rfl, by rw [hb], nn + m, by simp [World.drewN, Nat.add_assoc]⟩
              clear hm2 f0 f2 e1 e2
              cases hx : anyT L x0 j with
              | true =>
                have R := Lib.hid (fun m => RN.out true m (by rw [AS.out, hx]; rfl))
                clear AS RN hx
                go_wp2_with fail
                go_quiet (fail)
                go_wp2_with fail
                exact ⟨by simpa using R.out _, by simp [RowKit.intOf]; omega⟩
              | false =>
                have R := Lib.hid (fun m => RN.out (y1 == x0) m (by rw [AS.out, hx]; rfl))
                clear AS RN hx
                go_wp2_with fail
                go_quiet (fail)
                go_wp2_with fail
                exact ⟨by simpa using R.out _, by simp [RowKit.intOf]; omega⟩
            · obtain rfl : j = L.length := by omega
              have BD : Hid (Below wa.heap.size wa (wb.drewN nn)) := below_drewN BL.out nn
              have OD : Hid ((wb.drewN nn).ownsRow wa.heap.size 34 3 u3 ((L.take k).filter (reachB L)).length (((L.take k).filter (reachB L)).flatMap cD)) := OW.out
              have q0 : (wb.drewN nn).cell? ⟨b1, o1 + k * 3, none⟩ = some (.int .i64 x0) := e0
              have q1 : (wb.drewN nn).cell? ⟨b1, o1 + k * 3 + 1, none⟩ = some (.int .i64 x1) := e1
              have q2 : (wb.drewN nn).cell? ⟨b1, o1 + k * 3 + 1 + 1, none⟩ = some (.int .i64 x2) := e2
              have hwd : (wb.drewN nn).heap.size = wb.heap.size := rfl
              have hfl : ((L.take k).filter (reachB L)).length ≤ k := by
                have := List.length_filter_le (reachB L) (L.take k)
                rw [List.length_take] at this; omega
              generalize wb.drewN nn = wd at *
              have szd : wa.heap.size ≤ wd.heap.size := by omega
              clear hwd
              clear e0 e1 e2
              cases hx : anyT L x0 L.length with
              | false =>
                have FS2 := FS.out false (by rw [RX.out, hx])
                simp only [Bool.false_eq_true, if_false, List.append_nil] at FS2
                have R : Hid (RelAc2 L wa u3 (.int .i64 ((k + 1 : Nat) : Int)) wd) := ⟨k + 1, by omega, rfl, by rw [FS2]; exact OD.out, BD.out⟩
                clear FS FS2 hx
                go_wp2_with fail
                exact ⟨by simpa using R.out, by simp [RowKit.intOf]; omega⟩
              | true =>
                have FS2 := FS.out true (by rw [RX.out, hx])
                rw [if_pos rfl] at FS2
                have FSH := Lib.hid FS2
                clear FS FS2 hx
                go_wp2_with (at_builtin; refine wpList_append_any _ rfl (.tmp 37) (.tmp 42) 33 rfl wa.heap.size 34 i0 _ 3 24 Try.underlying33 hi0 hz0 hz1 hz2 rfl (by decide) _ _ _ rfl (OD.out.alloc _) (wd.heap.size + 1) (some ⟨wd.heap.size, 0, none⟩) 1 1 (cD (x0, x1, x2)) rfl (reads_newC wd 34 #[.int .i64 x0, .int .i64 x1, .int .i64 x2] rfl) ?g3 ?g4 ?g5 ?g6 ?_)
                case g3 => intro u hu; simp [cD] at hu; rcases hu with rfl | rfl | rfl <;> rfl
                case g4 => unfold maxLen; omega
                case g5 => omega
                case g6 => simp; omega
                intro v9 w9 own9 gr9 _
                have R : Hid (RelAc2 L wa v9 (.int .i64 ((k + 1 : Nat) : Int)) w9) := by
                  refine ⟨k + 1, by omega, rfl, ?_, (BD.out.alloc (by omega) _).grown gr9 (by simp; omega) (fun g e => (OD.out.lt g e).1)⟩
                  rw [FSH.out, List.length_append, List.flatMap_append]
                  simpa using own9
                clear own9 gr9
                go_wp2_with fail
                exact ⟨by simpa using R.out, by simp [RowKit.intOf]; omega⟩
        · obtain rfl : k = L.length := by omega
          have OW2 : wb.ownsRow wa.heap.size 34 3 u3 (stepA L).length ((stepA L).flatMap cD) := by have := OW.out; rw [List.take_length] at this; exact this
          obtain ⟨ar, cr, hvr, _, rr, _⟩ := rec_of_own (d := d0) (c := cD) (fun _ => rfl) (by decide) OW2
          subst hvr
          have sle := stepA_le L
          have RR := Lib.hid rr
          clear OW OW2 rr
          by_cases hq : (stepA L).length = L.length
          · have F : Hid (acyclicR l = false) := by rw [Hid, ← AC.out, ST.out, if_pos hq]
            have hqb : (((stepA L).length : Int) == (L.length : Int)) = true := by simp [hq]
            clear hq ST
            go_wp2_with fail
            go_ret
            exact ⟨by rw [F.out]; rfl, BW.out⟩
          · have R : Hid (RelAc l w (.slice ar (stepA L).length cr) wb) := ⟨stepA L, ar, cr, by omega, rfl, RR.out, by rw [← AC.out, ST.out, if_neg hq], BW.out⟩
            have hqb : (((stepA L).length : Int) == (L.length : Int)) = false := by simp; omega
            have hlt : (stepA L).length < L.length := by omega
            clear ST
            go_wp2_with fail
            exact ⟨R.out, by simp [lenV]; omega⟩
end Go.Proofs.Ytlhblaemoejefaa
