/- The contract of slices.stableCmpFunc and slices.SortStableFunc at dependencies by node: in order, and each node's in their old order. -/
import Derived.Test.YtljojgpjgjfddaaLMrg
namespace Go.Proofs.Ytljojgpjgjfddaa
open Go.RowKit Go.Maps
set_option linter.unusedVariables false
set_option linter.unusedSimpArgs false

def RelT1 (w0 : World) (B base g cap n : Nat) (D0 : List Dp) (a b : Value) (wr : World) : Prop :=
  ∃ Q T : List Dp, Blks kN 20 Q ∧ a = .int .i64 (Q.length : Int) ∧ b = .int .i64 ((Q.length + 20 : Nat) : Int) ∧ Stb kN D0 (Q ++ T) ∧ OD w0 B base g cap n (Q ++ T) wr
def RelT2 (w0 : World) (B base g cap n : Nat) (D0 : List Dp) (s : Value) (wr : World) : Prop :=
  ∃ (bs : Nat) (Q T : List Dp), 0 < bs ∧ bs ≤ 2000 ∧ s = .int .i64 (bs : Int) ∧ Blks kN bs Q ∧ SrtK kN T ∧ T.length < bs ∧ Stb kN D0 (Q ++ T) ∧ OD w0 B base g cap n (Q ++ T) wr
def RelT3 (w0 : World) (B base g cap n bs : Nat) (D0 : List Dp) (a b : Value) (wr : World) : Prop :=
  ∃ Q2 Q T : List Dp, Blks kN (2 * bs) Q2 ∧ Blks kN bs Q ∧ SrtK kN T ∧ T.length < bs ∧ a = .int .i64 (Q2.length : Int) ∧ b = .int .i64 ((Q2.length + 2 * bs : Nat) : Int) ∧ Stb kN D0 (Q2 ++ Q ++ T) ∧ OD w0 B base g cap n (Q2 ++ Q ++ T) wr
theorem smN_of {D0 L : List Dp} (hs : SmN D0) (h : Stb kN D0 L) : SmN L := fun x hx => hs x (h.mem.1 hx)
set_option maxRecDepth 100000 in
set_option maxHeartbeats 16000000 in
theorem stabC_any (w0 : World) (B base g cap n : Nat) (D0 : List Dp) (w : World) (hn : n ≤ 1000) (hs : SmN D0) (h : OD w0 B base g cap n D0 w) :
    Calls Try.prog 54 #[.slice (some ⟨g, 0, none⟩) n cap, .int .i64 (n : Int), cmpV] w fun e w' => e = .returned (.tuple #[]) ∧ ∃ S, SrtK kN S ∧ Stb kN D0 S ∧ OD w0 B base g cap n S w' := by
  have ST : Hid (RelT1 w0 B base g cap n D0 (.int .i64 0) (.int .i64 20) w) := ⟨[], D0, Blks.nil _, rfl, rfl, Stb.refl _, h⟩
  have SM := Lib.hid hs
  clear h hs
  go_enter Try.func54, Try.ntmps54
  unfold cmpV
  go_wp2_with fail
  go_loopw [7, 8] (fun a b wr => RelT1 w0 B base g cap n D0 a b wr) (fun _ b _ => n + 40 - (RowKit.intOf b).toNat)
  case atStart => exact ST.out
  case round =>
    clear ST
    obtain ⟨Q, T, hQ, rfl, rfl, hst, hod⟩ := hrel
    have BQ := Lib.hid hQ
    have SB := Lib.hid hst
    have OW := Lib.hid hod
    have hl := hod.len
    rw [List.length_append] at hl
    have HL := Lib.hid hl
    obtain ⟨a, ha⟩ : ∃ a, Q.length = a := ⟨_, rfl⟩
    have HA := Lib.hid ha
    obtain ⟨b, hb⟩ : ∃ b, a + 20 = b := ⟨_, rfl⟩
    have HB := Lib.hid hb
    rw [ha, hb]
    have an : a ≤ n := by omega
    clear hQ hst hod hl ha hb
    by_cases hbn : b ≤ n
    · have bn : (b : Int) ≤ (n : Int) := by omega
      have IC := insC_any w0 B base g cap n a b Q (T.take 20) (T.drop 20) wr hn HA.out.symm (by rw [List.length_take]; have := HL.out; have := HA.out; have := HB.out; omega)
        (by rw [List.append_assoc, List.take_append_drop]; exact smN_of SM.out SB.out) (by rw [List.append_assoc, List.take_append_drop]; exact OW.out)
      unfold cmpV at IC
      have ICH := Lib.hid IC
      have NXT : Hid (∀ S wq, SrtK kN S → Stb kN (T.take 20) S → OD w0 B base g cap n (Q ++ S ++ T.drop 20) wq → RelT1 w0 B base g cap n D0 (.int .i64 (b : Int)) (.int .i64 ((b : Int) + 20)) wq) := fun S wq h1 h2 h3 => by
        have lS := h2.length
        rw [List.length_take] at lS
        have := HL.out
        have := HA.out
        have := HB.out
        have e : (Q ++ S).length = b := by rw [List.length_append]; omega
        refine ⟨Q ++ S, T.drop 20, BQ.out.snoc h1 (by omega), by rw [e], by rw [e]; rfl, ?_, h3⟩
        have h4 := SB.out
        rw [← List.take_append_drop 20 T] at h4
        have := h4.trans ((Stb.refl Q).app (h2.app (Stb.refl (T.drop 20))))
        simpa using this
      clear IC OW BQ SB
      go_wp2_with fail
      refine ICH.out.mono ?_
      rintro e w2 ⟨rfl, S, h1, h2, h3⟩
      have R := Lib.hid (NXT.out S w2 h1 h2 h3)
      clear h1 h2 h3 NXT ICH
      go_wp2_with fail
      exact ⟨by simpa using R.out, by simp [RowKit.intOf]; omega⟩
    · have bn : ¬ (b : Int) ≤ (n : Int) := by omega
      have IC := insC_any w0 B base g cap n a n Q T [] wr hn HA.out.symm (by have := HL.out; omega)
        (by rw [List.append_nil]; exact smN_of SM.out SB.out) (by rw [List.append_nil]; exact OW.out)
      unfold cmpV at IC
      have ICH := Lib.hid IC
      have NXT : Hid (∀ S wq, SrtK kN S → Stb kN T S → OD w0 B base g cap n (Q ++ S ++ []) wq → RelT2 w0 B base g cap n D0 (.int .i64 20) wq) := fun S wq h1 h2 h3 => by
        have lS := h2.length
        have := HL.out
        have := HA.out
        have := HB.out
        exact ⟨20, Q, S, by omega, by omega, rfl, BQ.out, h1, by omega, SB.out.trans ((Stb.refl Q).app h2), by simpa using h3⟩
      clear IC OW BQ SB
      go_wp2_with fail
      refine ICH.out.mono ?_
      rintro e w2 ⟨rfl, S, h1, h2, h3⟩
      have ST2 := Lib.hid (NXT.out S w2 h1 h2 h3)
      clear h1 h2 h3 NXT ICH HL HA HB an bn hbn
      go_wp2_with fail
      go_loopw [6] (fun s wr => RelT2 w0 B base g cap n D0 s wr) (fun s _ => n - (RowKit.intOf s).toNat)
      case atStart => exact ST2.out
      case round =>
        clear ST2
        obtain ⟨bs, Q, T, hbs0, hbs, rfl, hQ, hT, hTl, hst, hod⟩ := hrel
        have BQ := Lib.hid hQ
        have ST := Lib.hid hT
        have SB := Lib.hid hst
        have OW := Lib.hid hod
        have hl := hod.len
        rw [List.length_append] at hl
        have HL := Lib.hid hl
        have TL := Lib.hid hTl
        clear hQ hT hst hod hl hTl
        by_cases hbn : bs < n
        · have bn : (bs : Int) < (n : Int) := by omega
          have ST3 : Hid (RelT3 w0 B base g cap n bs D0 (.int .i64 0) (.int .i64 (2 * (bs : Int))) wr) := ⟨[], Q, T, Blks.nil _, BQ.out, ST.out, TL.out, rfl, by congr 1; simp, by simpa using SB.out, by simpa using OW.out⟩
          clear OW BQ SB ST HL TL
          go_wp2_with fail
          go_loopw [7, 8] (fun a b wr => RelT3 w0 B base g cap n bs D0 a b wr) (fun _ b _ => n + 2 * bs + 2 - (RowKit.intOf b).toNat)
          case atStart => exact ST3.out
          case round =>
            clear ST3
            obtain ⟨Q2, Q, T, hQ2, hQ, hT, hTl, rfl, rfl, hst, hod⟩ := hrel
            have BQ2 := Lib.hid hQ2
            have BQ := Lib.hid hQ
            have ST := Lib.hid hT
            have SB := Lib.hid hst
            have OW := Lib.hid hod
            have hl := hod.len
            rw [List.length_append, List.length_append] at hl
            have HL := Lib.hid hl
            have TL := Lib.hid hTl
            obtain ⟨a, ha⟩ : ∃ a, Q2.length = a := ⟨_, rfl⟩
            have HA := Lib.hid ha
            obtain ⟨b, hb⟩ : ∃ b, a + 2 * bs = b := ⟨_, rfl⟩
            have HB := Lib.hid hb
            rw [ha, hb]
            have an : a ≤ n := by omega
            have bb : b ≤ 5000 := by omega
            have abb : a < b := by omega
            clear hQ2 hQ hT hst hod hl hTl ha hb
            by_cases hbn2 : b ≤ n
            · have bn2 : (b : Int) ≤ (n : Int) := by omega
              obtain ⟨M1, M2, Q', hq, s1, s2, l1, l2, hQ'⟩ : ∃ M1 M2 Q', Q = M1 ++ M2 ++ Q' ∧ SrtK kN M1 ∧ SrtK kN M2 ∧ M1.length = bs ∧ M2.length = bs ∧ Blks kN bs Q' := by
                have h1 := HL.out
                have h2 := TL.out
                have h3 := HA.out
                have h4 := HB.out
                rcases BQ.out.cases hbs0 with rfl | ⟨M1, r, rfl, s1, l1, hr⟩
                · simp at h1; omega
                · rcases hr.cases hbs0 with rfl | ⟨M2, Q', rfl, s2, l2, hQ'⟩
                  · simp at h1; omega
                  · exact ⟨M1, M2, Q', by simp, s1, s2, l1, l2, hQ'⟩
              subst hq
              obtain ⟨mm, hmm⟩ : ∃ mm, a + bs = mm := ⟨_, rfl⟩
              have e1 : IntKind.i64.wrap ((a : Int) + (bs : Int)) = (mm : Int) := by rw [show (a : Int) + bs = (mm : Int) by omega]; exact IntWalk.i64_in _ (by omega)
              have eL : Q2 ++ (M1 ++ M2 ++ Q') ++ T = Q2 ++ M1 ++ M2 ++ (Q' ++ T) := by simp
              have SMD := smN_of SM.out SB.out
              have OD1 := OW.out
              have SB1 := SB.out
              rw [eL] at SMD OD1 SB1
              have IC := symM_any w0 B base g cap n hn (M1.length + M2.length) a mm b Q2 M1 M2 (Q' ++ T) wr (Nat.le_refl _) HA.out.symm (by rw [HA.out, l1, hmm]) (by rw [HA.out, l1, l2]; have := HB.out; omega) (by omega) (by omega) SMD s1 s2 OD1
              unfold cmpV at IC
              have ICH := Lib.hid IC
              have NXT : Hid (∀ S wq, SrtK kN S → Stb kN (M1 ++ M2) S → OD w0 B base g cap n (Q2 ++ S ++ (Q' ++ T)) wq → RelT3 w0 B base g cap n bs D0 (.int .i64 (b : Int)) (.int .i64 ((b : Int) + 2 * (bs : Int))) wq) := fun S wq h1 h2 h3 => by
                have lS := h2.length
                rw [List.length_append] at lS
                have h4 := HA.out
                have h5 := HB.out
                have e : (Q2 ++ S).length = b := by rw [List.length_append]; omega
                refine ⟨Q2 ++ S, Q', T, BQ2.out.snoc h1 (by omega), hQ', ST.out, TL.out, by rw [e], by rw [e]; congr 1, ?_, by simpa using h3⟩
                have := SB1.trans (show Stb kN (Q2 ++ M1 ++ M2 ++ (Q' ++ T)) (Q2 ++ S ++ Q' ++ T) from by
                  have := ((Stb.refl Q2).app h2).app (Stb.refl (Q' ++ T))
                  simpa using this)
                exact this
              have hm2 : mm ≤ b := by have := HB.out; omega
              clear IC OW BQ BQ2 SB SB1 ST TL s1 s2 l1 l2 hQ' eL SMD OD1 hmm
              go_wp2_with fail
              refine ICH.out.mono ?_
              rintro e w3 ⟨rfl, S, h1, h2, h3⟩
              have R := Lib.hid (NXT.out S w3 h1 h2 h3)
              clear h1 h2 h3 NXT ICH
              go_wp2_with fail
              exact ⟨by simpa using R.out, by simp [RowKit.intOf]; omega⟩
            · have bn2 : ¬ (b : Int) ≤ (n : Int) := by omega
              obtain ⟨mm, hmm⟩ : ∃ mm, a + bs = mm := ⟨_, rfl⟩
              have e1 : IntKind.i64.wrap ((a : Int) + (bs : Int)) = (mm : Int) := by rw [show (a : Int) + bs = (mm : Int) by omega]; exact IntWalk.i64_in _ (by omega)
              have h1 := HL.out
              have h2 := TL.out
              have h3 := HA.out
              have h4 := HB.out
              have CAS : Q = [] ∨ (SrtK kN Q ∧ Q.length = bs) := by
                rcases BQ.out.cases hbs0 with rfl | ⟨M1, r, rfl, s1, l1, hr⟩
                · exact .inl rfl
                · rcases hr.cases hbs0 with rfl | ⟨M2, Q', rfl, s2, l2, hQ'⟩
                  · exact .inr ⟨by simpa using s1, by simpa using l1⟩
                  · simp at h1; omega
              by_cases hmn : mm < n
              · have bm : (mm : Int) < (n : Int) := by omega
                have CQ : SrtK kN Q ∧ Q.length = bs := by
                  rcases CAS with rfl | h
                  · simp at h1; omega
                  · exact h
                have SMD := smN_of SM.out SB.out
                have IC := symM_any w0 B base g cap n hn (Q.length + T.length) a mm n Q2 Q T [] wr (Nat.le_refl _) h3.symm (by omega) (by omega) (by omega) (by omega) (by simpa using SMD) CQ.1 ST.out (by simpa using OW.out)
                unfold cmpV at IC
                have ICH := Lib.hid IC
                have NXT : Hid (∀ S wq, SrtK kN S → Stb kN (Q ++ T) S → OD w0 B base g cap n (Q2 ++ S ++ []) wq → RelT2 w0 B base g cap n D0 (.int .i64 ((bs : Int) * 2)) wq) := fun S wq g1 g2 g3 => by
                  have lS := g2.length
                  rw [List.length_append] at lS
                  refine ⟨2 * bs, Q2, S, by omega, by omega, by congr 1; omega, BQ2.out, g1, by omega, ?_, by simpa using g3⟩
                  have := SB.out.trans (show Stb kN (Q2 ++ Q ++ T) (Q2 ++ S) from by
                    have := (Stb.refl Q2).app g2
                    simpa using this)
                  exact this
                clear IC OW BQ BQ2 SB ST TL HL HA HB CAS CQ SMD h1 h2 h3 h4 hmm
                go_wp2_with fail
                refine ICH.out.mono ?_
                rintro e w3 ⟨rfl, S, h1, h2, h3⟩
                have R := Lib.hid (NXT.out S w3 h1 h2 h3)
                clear h1 h2 h3 NXT ICH
                go_wp2_with fail
                exact ⟨by simpa using R.out, by simp [RowKit.intOf]; omega⟩
              · have bm : ¬ (mm : Int) < (n : Int) := by omega
                have R : Hid (RelT2 w0 B base g cap n D0 (.int .i64 ((bs : Int) * 2)) wr) := by
                  rcases CAS with rfl | ⟨s1, l1⟩
                  · exact ⟨2 * bs, Q2, T, by omega, by omega, by congr 1; omega, BQ2.out, ST.out, by omega, by simpa using SB.out, by simpa using OW.out⟩
                  · have hT0 : T = [] := List.eq_nil_of_length_eq_zero (by omega)
                    subst hT0
                    exact ⟨2 * bs, Q2, Q, by omega, by omega, by congr 1; omega, BQ2.out, s1, by omega, by simpa using SB.out, by simpa using OW.out⟩
                clear OW BQ BQ2 SB ST TL HL HA HB CAS h1 h2 h3 h4 hmm
                go_wp2_with fail
                exact ⟨by simpa using R.out, by simp [RowKit.intOf]; omega⟩
        · have bn : ¬ (bs : Int) < (n : Int) := by omega
          have F : Hid (∃ S, SrtK kN S ∧ Stb kN D0 S ∧ OD w0 B base g cap n S wr) := by
            have h1 := HL.out
            have h2 := TL.out
            refine ⟨Q ++ T, ?_, SB.out, OW.out⟩
            rcases BQ.out.cases hbs0 with rfl | ⟨M1, r, rfl, s1, l1, hr⟩
            · simpa using ST.out
            · simp only [List.length_append] at h1
              have e1 : r = [] := List.eq_nil_of_length_eq_zero (by omega)
              have e2 : T = [] := List.eq_nil_of_length_eq_zero (by omega)
              subst e1
              subst e2
              simpa using s1
          clear OW BQ SB ST TL HL
          go_wp2_with fail
          go_end0
          exact ⟨rfl, by simpa using F.out⟩
theorem sortS_any (w0 : World) (B base g cap n : Nat) (D0 : List Dp) (w : World) (hn : n ≤ 1000) (hs : SmN D0) (h : OD w0 B base g cap n D0 w) :
    Calls Try.prog 21 #[.slice (some ⟨g, 0, none⟩) n cap, cmpV] w fun e w' => e = .returned (.tuple #[]) ∧ ∃ S, SrtK kN S ∧ Stb kN D0 S ∧ OD w0 B base g cap n S w' := by
  have SC := stabC_any w0 B base g cap n D0 w hn hs h
  unfold cmpV at SC
  have SCH := Lib.hid SC
  clear SC h hs
  go_enter Try.func21, Try.ntmps21
  unfold cmpV
  go_wp2_with fail
  refine SCH.out.mono ?_
  rintro e w2 ⟨rfl, ho⟩
  have F := Lib.hid ho
  clear ho SCH
  go_wp2_with fail
  go_end0
  exact ⟨rfl, F.out⟩
def RelN1 (a b : Value) (w0 wr : World) : Prop := a = .int .i64 0 ∧ b = .int .i64 20 ∧ w0 = wr
theorem ins0_any (ad : Option Addr) (c : Nat) (w : World) :
    Calls Try.prog 91 #[.slice ad 0 c, .int .i64 0, .int .i64 0, cmpV] w fun e w' => e = .returned (.tuple #[]) ∧ w = w' := by
  go_enter Try.func91, Try.ntmps91
  unfold cmpV
  go_wp2_with fail
  go_loopw [8] (fun i wr => i = .int .i64 1 ∧ w = wr) (fun _ _ => 0)
  case atStart => exact ⟨rfl, rfl⟩
  case round =>
    obtain ⟨rfl, rfl⟩ := hrel
    go_wp2_with fail
    go_end0
    exact ⟨rfl, rfl⟩
theorem stab0_any (ad : Option Addr) (c : Nat) (w : World) :
    Calls Try.prog 54 #[.slice ad 0 c, .int .i64 0, cmpV] w fun e w' => e = .returned (.tuple #[]) ∧ w = w' := by
  have IC := ins0_any ad c w
  unfold cmpV at IC
  have ICH := Lib.hid IC
  clear IC
  go_enter Try.func54, Try.ntmps54
  unfold cmpV
  go_wp2_with fail
  go_loopw [7, 8] (fun a b wr => RelN1 a b w wr) (fun _ _ _ => 0)
  case atStart => exact ⟨rfl, rfl, rfl⟩
  case round =>
    obtain ⟨rfl, rfl, rfl⟩ := hrel
    go_wp2_with fail
    refine ICH.out.mono ?_
    rintro e w2 ⟨rfl, rfl⟩
    go_wp2_with fail
    go_loopw [6] (fun s wr => s = .int .i64 20 ∧ w = wr) (fun _ _ => 0)
    case atStart => exact ⟨rfl, rfl⟩
    case round =>
      obtain ⟨rfl, rfl⟩ := hrel
      go_wp2_with fail
      go_end0
      exact ⟨rfl, rfl⟩
theorem sort0_any (ad : Option Addr) (c : Nat) (w : World) :
    Calls Try.prog 21 #[.slice ad 0 c, cmpV] w fun e w' => e = .returned (.tuple #[]) ∧ w = w' := by
  have SC := stab0_any ad c w
  unfold cmpV at SC
  have SCH := Lib.hid SC
  clear SC
  go_enter Try.func21, Try.ntmps21
  unfold cmpV
  go_wp2_with fail
  refine SCH.out.mono ?_
  rintro e w2 ⟨rfl, rfl⟩
  go_wp2_with fail
  go_end0
  exact ⟨rfl, rfl⟩
end Go.Proofs.Ytljojgpjgjfddaa
