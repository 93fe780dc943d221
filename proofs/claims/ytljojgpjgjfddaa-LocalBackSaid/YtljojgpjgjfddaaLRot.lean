/- The contract of slices.rotateCmpFunc at dependencies. -/
import Derived.Test.YtljojgpjgjfddaaLSw
namespace Go.Proofs.Ytljojgpjgjfddaa
open Go.RowKit Go.Maps
set_option linter.unusedVariables false
set_option linter.unusedSimpArgs false

def RelRot (w0 : World) (B base g cap n m : Nat) (P U0 V0 R : List Dp) (i j : Value) (wr : World) : Prop :=
  ∃ (DL U V DR : List Dp), i = .int .i64 (U.length : Int) ∧ j = .int .i64 (V.length : Int) ∧ 0 < U.length ∧ 0 < V.length ∧ m = P.length + DL.length + U.length ∧ DL ++ (V ++ U) ++ DR = V0 ++ U0 ∧ OD w0 B base g cap n (P ++ DL ++ U ++ V ++ (DR ++ R)) wr
set_option maxRecDepth 100000 in
set_option maxHeartbeats 4000000 in
theorem rotC_any (w0 : World) (B base g cap n a m b : Nat) (P U V R : List Dp) (cf : Value) (w : World) (hn : n ≤ 1000) (ha : a = P.length) (hm : m = P.length + U.length) (hb : b = P.length + U.length + V.length) (hu : 0 < U.length) (hv : 0 < V.length)
    (h : OD w0 B base g cap n (P ++ U ++ V ++ R) w) :
    Calls Try.prog 128 #[.slice (some ⟨g, 0, none⟩) n cap, .int .i64 (a : Int), .int .i64 (m : Int), .int .i64 (b : Int), cf] w fun e w' => e = .returned (.tuple #[]) ∧ OD w0 B base g cap n (P ++ V ++ U ++ R) w' := by
  have ST : Hid (RelRot w0 B base g cap n m P U V R (.int .i64 (U.length : Int)) (.int .i64 (V.length : Int)) w) := ⟨[], U, V, [], rfl, rfl, hu, hv, by simpa using hm, by simp, by simpa using h⟩
  have hl := h.len
  simp only [List.length_append] at hl
  have e1 : IntKind.i64.wrap ((m : Int) - (a : Int)) = (U.length : Int) := by rw [show (m : Int) - a = (U.length : Int) by omega]; exact IntWalk.i64_in _ (by omega)
  have e2 : IntKind.i64.wrap ((b : Int) - (m : Int)) = (V.length : Int) := by rw [show (b : Int) - m = (V.length : Int) by omega]; exact IntWalk.i64_in _ (by omega)
  have HL := Lib.hid hl
  clear h ha hm hb hu hv hl
  go_enter Try.func128, Try.ntmps128
  go_wp2_with fail
  clear e1 e2
  go_loopw [10, 11] (fun i j wr => RelRot w0 B base g cap n m P U V R i j wr) (fun i j _ => (RowKit.intOf i).toNat + (RowKit.intOf j).toNat)
  case atStart => exact ST.out
  case round =>
    clear ST
    obtain ⟨DL, X, Y, DR, rfl, rfl, hx, hy, hm, heq, hod⟩ := hrel
    have OW := Lib.hid hod
    have HEQ := Lib.hid heq
    have HM := Lib.hid hm
    have hlx := hod.len
    simp only [List.length_append] at hlx
    have HLX := Lib.hid hlx
    clear hod heq hm hlx
    obtain ⟨i, hi⟩ : ∃ i, X.length = i := ⟨_, rfl⟩
    obtain ⟨j, hj⟩ : ∃ j, Y.length = j := ⟨_, rfl⟩
    have HI := Lib.hid hi
    have HJ := Lib.hid hj
    rw [hi] at hx ⊢
    rw [hj] at hy ⊢
    clear hi hj
    by_cases hij : i = j
    · have SC := swapR_any w0 B base g cap n (P.length + DL.length) m i (P ++ DL) X [] Y (DR ++ R) cf wr hn HI.out.symm (by have := HI.out; have := HJ.out; omega) (by simp) (by rw [HM.out]; simp) (by simpa using OW.out)
      have F : Hid (∀ w', OD w0 B base g cap n (P ++ DL ++ Y ++ [] ++ X ++ (DR ++ R)) w' → OD w0 B base g cap n (P ++ V ++ U ++ R) w') := fun w' h => by
        have e : P ++ DL ++ Y ++ [] ++ X ++ (DR ++ R) = P ++ V ++ U ++ R := by
          have := HEQ.out
          rw [show P ++ DL ++ Y ++ [] ++ X ++ (DR ++ R) = P ++ (DL ++ (Y ++ X) ++ DR) ++ R by simp, this]; simp
        rw [e] at h; exact h
      have e1 : IntKind.i64.wrap ((m : Int) - (i : Int)) = ((P.length + DL.length : Nat) : Int) := by rw [show (m : Int) - i = ((P.length + DL.length : Nat) : Int) by have := HM.out; have := HI.out; omega]; exact IntWalk.i64_in _ (by have := HLX.out; omega)
      generalize P.length + DL.length = s at *
      have SCH := Lib.hid SC
      subst hij
      clear SC
      go_wp2_with fail
      refine SCH.out.mono ?_
      rintro e w2 ⟨rfl, ho⟩
      have G := Lib.hid (F.out w2 ho)
      clear ho SCH
      go_wp2_with fail
      go_end0
      exact ⟨rfl, G.out⟩
    · have q1 : ((i : Int) != (j : Int)) = true := by simp; omega
      by_cases hgt : j < i
      · have q2 : (j : Int) < (i : Int) := by omega
        have SC := swapR_any w0 B base g cap n (P.length + DL.length) m j (P ++ DL) (X.take j) (X.drop j) Y (DR ++ R) cf wr hn (by rw [List.length_take]; have := HI.out; omega) (by rw [List.length_take]; have := HI.out; have := HJ.out; omega) (by simp) (by rw [HM.out, List.length_take, List.length_drop]; simp; have := HI.out; omega)
          (by have := OW.out; rw [show P ++ DL ++ X.take j ++ X.drop j ++ Y ++ (DR ++ R) = P ++ DL ++ X ++ Y ++ (DR ++ R) by rw [List.append_assoc (P ++ DL), List.take_append_drop]]; exact this)
        have NXT : Hid (∀ w', OD w0 B base g cap n (P ++ DL ++ Y ++ X.drop j ++ X.take j ++ (DR ++ R)) w' → RelRot w0 B base g cap n m P U V R (.int .i64 ((i : Int) - (j : Int))) (.int .i64 (j : Int)) w') := fun w' h => by
          have a1 := HI.out
          have a2 := HJ.out
          have a3 := HM.out
          refine ⟨DL ++ Y, X.drop j, X.take j, DR, by rw [List.length_drop]; congr 1; omega, by rw [List.length_take]; congr 1; omega, by rw [List.length_drop]; omega, by rw [List.length_take]; omega, by rw [List.length_append, List.length_drop]; omega, ?_, by simpa using h⟩
          rw [← HEQ.out]
          have : X.take j ++ X.drop j = X := List.take_append_drop j X
          rw [this]; simp
        have e1 : IntKind.i64.wrap ((m : Int) - (i : Int)) = ((P.length + DL.length : Nat) : Int) := by rw [show (m : Int) - i = ((P.length + DL.length : Nat) : Int) by have := HM.out; have := HI.out; omega]; exact IntWalk.i64_in _ (by have := HLX.out; omega)
        have e2 : IntKind.i64.wrap ((i : Int) - (j : Int)) = (i : Int) - (j : Int) := IntWalk.i64_in _ (by have := HLX.out; have := HI.out; omega)
        generalize P.length + DL.length = s at *
        have SCH := Lib.hid SC
        clear SC hij
        go_wp2_with fail
        refine SCH.out.mono ?_
        rintro e w2 ⟨rfl, ho⟩
        have G := Lib.hid (NXT.out w2 ho)
        clear ho SCH NXT
        go_wp2_with fail
        exact ⟨by simpa using G.out, by simp [RowKit.intOf]; omega⟩
      · have q2 : ¬ (j : Int) < (i : Int) := by omega
        have SC := swapR_any w0 B base g cap n (P.length + DL.length) (m + j - i) i (P ++ DL) X (Y.take (j - i)) (Y.drop (j - i)) (DR ++ R) cf wr hn HI.out.symm (by rw [List.length_drop]; have := HI.out; have := HJ.out; omega) (by simp) (by rw [HM.out, List.length_take]; simp; have := HI.out; have := HJ.out; omega)
          (by have := OW.out; rw [show P ++ DL ++ X ++ Y.take (j - i) ++ Y.drop (j - i) ++ (DR ++ R) = P ++ DL ++ X ++ Y ++ (DR ++ R) by rw [List.append_assoc (P ++ DL ++ X), List.take_append_drop]]; exact this)
        have NXT : Hid (∀ w', OD w0 B base g cap n (P ++ DL ++ Y.drop (j - i) ++ Y.take (j - i) ++ X ++ (DR ++ R)) w' → RelRot w0 B base g cap n m P U V R (.int .i64 (i : Int)) (.int .i64 ((j : Int) - (i : Int))) w') := fun w' h => by
          have a1 := HI.out
          have a2 := HJ.out
          have a3 := HM.out
          refine ⟨DL, Y.drop (j - i), Y.take (j - i), X ++ DR, by rw [List.length_drop]; congr 1; omega, by rw [List.length_take]; congr 1; omega, by rw [List.length_drop]; omega, by rw [List.length_take]; omega, by rw [List.length_drop]; omega, ?_, by simpa using h⟩
          rw [← HEQ.out]
          have : Y.take (j - i) ++ Y.drop (j - i) = Y := List.take_append_drop _ Y
          rw [this]; simp
        have e1 : IntKind.i64.wrap ((m : Int) - (i : Int)) = ((P.length + DL.length : Nat) : Int) := by rw [show (m : Int) - i = ((P.length + DL.length : Nat) : Int) by have := HM.out; have := HI.out; omega]; exact IntWalk.i64_in _ (by have := HLX.out; omega)
        have e2 : IntKind.i64.wrap ((m : Int) + (j : Int)) = (m : Int) + (j : Int) := IntWalk.i64_in _ (by have := HLX.out; have := HM.out; have := HJ.out; omega)
        have e3 : IntKind.i64.wrap ((m : Int) + (j : Int) - (i : Int)) = ((m + j - i : Nat) : Int) := by rw [show (m : Int) + j - i = ((m + j - i : Nat) : Int) by omega]; exact IntWalk.i64_in _ (by have := HLX.out; have := HM.out; have := HJ.out; omega)
        have e4 : IntKind.i64.wrap ((j : Int) - (i : Int)) = (j : Int) - (i : Int) := IntWalk.i64_in _ (by have := HLX.out; have := HJ.out; omega)
        generalize P.length + DL.length = s at *
        generalize m + j - i = t at *
        have SCH := Lib.hid SC
        clear SC
        go_wp2_with fail
        refine SCH.out.mono ?_
        rintro e w2 ⟨rfl, ho⟩
        have G := Lib.hid (NXT.out w2 ho)
        clear ho SCH NXT
        go_wp2_with fail
        exact ⟨by simpa using G.out, by simp [RowKit.intOf]; omega⟩
end Go.Proofs.Ytljojgpjgjfddaa
