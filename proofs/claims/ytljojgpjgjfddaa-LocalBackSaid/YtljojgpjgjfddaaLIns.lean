/- The contracts of the law's comparison of dependencies by node, and of slices.insertionSortCmpFunc with it. -/
import Derived.Test.YtljojgpjgjfddaaLSw
namespace Go.Proofs.Ytljojgpjgjfddaa
open Go.RowKit Go.Maps
set_option linter.unusedVariables false
set_option linter.unusedSimpArgs false

/-- A dependency's node. -/
def kN (x : Dp) : Int := x.2.2
def SmN (D : List Dp) : Prop := ∀ x ∈ D, 0 ≤ x.2.2 ∧ x.2.2 ≤ 1000000
def cmpV : Value := .func (.func 22) #[] #[]
set_option maxHeartbeats 1000000 in
theorem back1_any (x y : Dp) (w : World) (hx : 0 ≤ x.2.2 ∧ x.2.2 ≤ 1000000) (hy : 0 ≤ y.2.2 ∧ y.2.2 ≤ 1000000) :
    Calls Try.prog 22 #[.agg #[.int .i64 x.1, .int .i64 x.2.1, .int .i64 x.2.2], .agg #[.int .i64 y.1, .int .i64 y.2.1, .int .i64 y.2.2]] w fun e w' => e = .returned (.int .i64 (kN x - kN y)) ∧ Below w.heap.size w w' := by
  obtain ⟨xf, xt, xn⟩ := x
  obtain ⟨yf, yt, yn⟩ := y
  simp only at hx hy ⊢
  have B : Hid (Below w.heap.size w ((w.alloc (.cells #[.int .i64 xf, .int .i64 xt, .int .i64 xn] 49)).alloc (.cells #[.int .i64 yf, .int .i64 yt, .int .i64 yn] 49))) := ((Below.refl _ _).alloc (Nat.le_refl _) _).alloc (by simp) _
  have q1 : IntKind.i64.wrap (xn - yn) = xn - yn := IntWalk.i64_in _ (by omega)
  clear hx hy
  go_enter Try.func22, Try.ntmps22
  go_wp2_with fail
  go_ret
  exact ⟨rfl, B.out⟩
/-- The two places where an element is exchanged with the one ahead of it. -/
theorem sw_adj (L1 L2 : List Dp) (z x : Dp) : ((L1 ++ z :: x :: L2).set (L1.length + 1) z).set L1.length x = L1 ++ x :: z :: L2 := by
  simp
theorem sw_adj' (L1 L2 : List Dp) (z x : Dp) : ((L1 ++ z :: x :: L2).set L1.length x).set (L1.length + 1) z = L1 ++ x :: z :: L2 := by
  simp
def RelI0 (w0 : World) (B base g cap n a : Nat) (P A R : List Dp) (i : Value) (wr : World) : Prop :=
  ∃ (k : Nat) (S : List Dp), 1 ≤ k ∧ (k = 1 ∨ k ≤ A.length) ∧ i = .int .i64 ((a + k : Nat) : Int) ∧ SrtK kN S ∧ Stb kN (A.take k) S ∧ OD w0 B base g cap n (P ++ S ++ A.drop k ++ R) wr
def RelI1 (w0 : World) (B base g cap n a : Nat) (P S : List Dp) (x : Dp) (R : List Dp) (j : Value) (wr : World) : Prop :=
  ∃ S1 S2 : List Dp, S = S1 ++ S2 ∧ j = .int .i64 ((a + S1.length : Nat) : Int) ∧ (∀ y ∈ S2, kN x < kN y) ∧ OD w0 B base g cap n (P ++ S1 ++ x :: S2 ++ R) wr
theorem snoc_of {α : Type} {l : List α} (h : l ≠ []) : ∃ m z, l = m ++ [z] := ⟨l.dropLast, l.getLast h, (List.dropLast_concat_getLast h).symm⟩
set_option maxRecDepth 100000 in
set_option maxHeartbeats 8000000 in
theorem insC_any (w0 : World) (B base g cap n a b : Nat) (P A R : List Dp) (w : World) (hn : n ≤ 1000) (ha : a = P.length) (hb : b = P.length + A.length) (hs : SmN (P ++ A ++ R)) (h : OD w0 B base g cap n (P ++ A ++ R) w) :
    Calls Try.prog 91 #[.slice (some ⟨g, 0, none⟩) n cap, .int .i64 (a : Int), .int .i64 (b : Int), cmpV] w fun e w' => e = .returned (.tuple #[]) ∧ ∃ S, SrtK kN S ∧ Stb kN A S ∧ OD w0 B base g cap n (P ++ S ++ R) w' := by
  have ST : Hid (RelI0 w0 B base g cap n a P A R (.int .i64 ((a : Int) + 1)) w) := ⟨1, A.take 1, Nat.le_refl _, .inl rfl, rfl, by
    cases A with
    | nil => exact List.Pairwise.nil
    | cons x l => exact List.pairwise_singleton _ _, Stb.refl _, by rw [List.append_assoc P, List.take_append_drop]; exact h⟩
  have hl := h.len
  simp only [List.length_append] at hl
  have HL := Lib.hid hl
  have HA := Lib.hid ha
  have HBb := Lib.hid hb
  have SMA : Hid (∀ x ∈ A, 0 ≤ x.2.2 ∧ x.2.2 ≤ 1000000) := fun x hx => hs x (by simp [hx])
  have an : a + 1 ≤ 2000 := by omega
  have e0 : IntKind.i64.wrap ((a : Int) + 1) = (a : Int) + 1 := IntWalk.i64_in _ (by omega)
  clear h hl ha hb hs
  go_enter Try.func91, Try.ntmps91
  unfold cmpV
  go_wp2_with fail
  clear e0
  go_loopw [8] (fun i wr => RelI0 w0 B base g cap n a P A R i wr) (fun i _ => b + 1 - (RowKit.intOf i).toNat)
  case atStart => exact ST.out
  case round =>
    clear ST
    obtain ⟨k, S, hk1, hk2, rfl, hsr, hst, hod⟩ := hrel
    have OW := Lib.hid hod
    have SR := Lib.hid hsr
    have SB := Lib.hid hst
    clear hod hsr hst
    by_cases hkr : k < A.length
    · have slen : S.length = k := by have := SB.out.length; rw [List.length_take] at this; omega
      have SLN := Lib.hid slen
      have hdr : A.drop k = A.getD k d0 :: A.drop (k + 1) := drop_cons d0 hkr
      have hxm : A.getD k d0 ∈ A := by simp [List.getD, hkr]
      have SMX := Lib.hid (SMA.out _ hxm)
      have TK : Hid (A.take (k + 1) = A.take k ++ [A.getD k d0]) := take_snocG d0 A k hkr
      have SMS : Hid (∀ y ∈ S, 0 ≤ y.2.2 ∧ y.2.2 ≤ 1000000) := fun y hy => SMA.out y (List.mem_of_mem_take (SB.out.mem.1 hy))
      have NX0 : Hid (∀ (S' : List Dp) wq, SrtK kN S' → Stb kN (S ++ [A.getD k d0]) S' → OD w0 B base g cap n (P ++ S' ++ (A.drop (k + 1) ++ R)) wq → RelI0 w0 B base g cap n a P A R (.int .i64 ((a + k : Nat) + 1 : Int)) wq) := fun S' wq h1 h2 h3 =>
        ⟨k + 1, S', by omega, .inr (by omega), by congr 1, h1, by rw [TK.out]; exact (SB.out.app (Stb.refl _)).trans h2, by simpa using h3⟩
      have hod2 : OD w0 B base g cap n (P ++ S ++ A.getD k d0 :: [] ++ (A.drop (k + 1) ++ R)) wr := by have := OW.out; rw [hdr] at this; simpa using this
      have kb : ((a + k : Nat) : Int) < (b : Int) := by have := HBb.out; have := HA.out; omega
      have akn : a + k < n := by have := HL.out; have := HA.out; omega
      generalize A.getD k d0 = x at *
      have ST1 : Hid (RelI1 w0 B base g cap n a P S x (A.drop (k + 1) ++ R) (.int .i64 ((a + k : Nat) : Int)) wr) := ⟨S, [], by simp, by rw [SLN.out], by simp, hod2⟩
      generalize A.drop (k + 1) ++ R = R2 at *
      obtain ⟨i, hi⟩ : ∃ i, a + k = i := ⟨_, rfl⟩
      rw [hi] at ST1 NX0 kb akn ⊢
      clear hdr hxm hod2 slen OW
      go_wp2_with fail
      go_loopw [9] (fun j wr => RelI1 w0 B base g cap n a P S x R2 j wr) (fun j _ => (RowKit.intOf j).toNat)
      case atStart => exact ST1.out
      case round =>
        clear ST1
        obtain ⟨S1, S2, hS, rfl, hgt, hod⟩ := hrel
        have OW := Lib.hid hod
        have HS := Lib.hid hS
        have HG := Lib.hid hgt
        clear hod hS hgt
        have hs1k : S1.length ≤ k := by have := SLN.out; rw [HS.out, List.length_append] at this; omega
        by_cases hne : S1 = []
        · have F : Hid (∀ q, RelI0 w0 B base g cap n a P A R (.int .i64 ((i : Int) + 1)) (wr.drewN q)) := fun q => by
            have h1 := ins_ok (key := kN) (S1 := []) (S2 := S2) (x := x) (by have := SR.out; rw [HS.out, hne] at this; exact this) (by simp) HG.out
            refine NX0.out (x :: S2) _ h1.1 ?_ ?_
            · rw [HS.out, hne]; exact h1.2
            · have := OW.out.drewN q; rw [hne] at this; simpa using this
          subst hne
          have ng : ¬ (a : Int) < ((a + ([] : List Dp).length : Nat) : Int) := by simp
          simp only [List.length_nil, Nat.add_zero] at ng ⊢
          clear OW NX0 HS HG
          go_wp2_with fail
          go_quiet (fail)
          go_wp2_with fail
          exact ⟨by simpa using F.out _, by simp [RowKit.intOf]; omega⟩
        · obtain ⟨T, z, hT⟩ := snoc_of hne
          subst hT
          obtain ⟨q, hq⟩ : ∃ q, a + T.length = q := ⟨_, rfl⟩
          have hj : a + (T ++ [z]).length = q + 1 := by rw [List.length_append, List.length_singleton]; omega
          rw [hj]
          have eD : P ++ (T ++ [z]) ++ x :: S2 ++ R2 = (P ++ T) ++ z :: x :: (S2 ++ R2) := by simp
          have eL : (P ++ T).length = q := by rw [List.length_append, ← HA.out]; exact hq
          have OW1 : Hid (OD w0 B base g cap n ((P ++ T) ++ z :: x :: (S2 ++ R2)) wr) := by rw [Hid, ← eD]; exact OW.out
          have hqn : q + 1 < n := by
            have := OW1.out.len
            rw [List.length_append, eL] at this
            simp at this
            omega
          have GQ : ((P ++ T) ++ z :: x :: (S2 ++ R2)).getD q d0 = z := by rw [← eL]; simp [List.getD]
          have GP : ((P ++ T) ++ z :: x :: (S2 ++ R2)).getD (q + 1) d0 = x := by
            rw [show q + 1 = (P ++ T ++ [z]).length by rw [List.length_append, eL, List.length_singleton], show (P ++ T) ++ z :: x :: (S2 ++ R2) = (P ++ T ++ [z]) ++ x :: (S2 ++ R2) by simp]
            simp [List.getD]
          have SW1 : Hid ((((P ++ T) ++ z :: x :: (S2 ++ R2)).set (q + 1) z).set q x = (P ++ T) ++ x :: z :: (S2 ++ R2)) := by rw [Hid, ← eL]; exact sw_adj _ _ _ _
          have SMZ := SMS.out z (by rw [HS.out]; simp)
          have FIN : Hid (¬ kN x < kN z → ∀ wq, OD w0 B base g cap n ((P ++ T) ++ z :: x :: (S2 ++ R2)) wq → RelI0 w0 B base g cap n a P A R (.int .i64 ((i : Int) + 1)) wq) := fun hle wq ho => by
            have hsrt := SR.out
            rw [HS.out] at hsrt
            have hTz := (SrtK.app.1 hsrt).1
            have h1 := ins_ok (key := kN) (S1 := T ++ [z]) (S2 := S2) (x := x) hsrt (fun y hy => by
              have h3 : kN y ≤ kN z := by
                rcases List.mem_append.1 hy with r | r
                · exact (SrtK.app.1 hTz).2.2 y r z (by simp)
                · rw [List.mem_singleton] at r; subst r; exact Int.le_refl _
              omega) HG.out
            refine NX0.out ((T ++ [z]) ++ x :: S2) _ h1.1 ?_ ?_
            · rw [HS.out]; exact h1.2
            · simpa using ho
          have NXT : Hid (kN x < kN z → ∀ wq, OD w0 B base g cap n ((P ++ T) ++ x :: z :: (S2 ++ R2)) wq → RelI1 w0 B base g cap n a P S x R2 (.int .i64 (q : Int)) wq) := fun hlt wq ho =>
            ⟨T, z :: S2, by rw [HS.out]; simp, by rw [hq], fun y hy => by
              rcases List.mem_cons.1 hy with rfl | hy
              · exact hlt
              · exact HG.out y hy, by simpa using ho⟩
          have BC0 := fun w' => back1_any x z w' SMX.out SMZ
          have CG : Hid (∀ wq, OD w0 B base g cap n ((P ++ T) ++ z :: x :: (S2 ++ R2)) wq → ((wq.cell? ⟨g, q * 3, none⟩ = some (.int .i64 z.1) ∧ wq.cell? ⟨g, q * 3 + 1, none⟩ = some (.int .i64 z.2.1) ∧ wq.cell? ⟨g, q * 3 + 2, none⟩ = some (.int .i64 z.2.2)) ∧ wq.cell? ⟨g, (q + 1) * 3, none⟩ = some (.int .i64 x.1) ∧ wq.cell? ⟨g, (q + 1) * 3 + 1, none⟩ = some (.int .i64 x.2.1) ∧ wq.cell? ⟨g, (q + 1) * 3 + 2, none⟩ = some (.int .i64 x.2.2)) ∧ (wq.frozen? ⟨g, q * 3, none⟩ = false ∧ wq.frozen? ⟨g, q * 3 + 1, none⟩ = false ∧ wq.frozen? ⟨g, q * 3 + 2, none⟩ = false) ∧ wq.frozen? ⟨g, (q + 1) * 3, none⟩ = false ∧ wq.frozen? ⟨g, (q + 1) * 3 + 1, none⟩ = false ∧ wq.frozen? ⟨g, (q + 1) * 3 + 2, none⟩ = false) := fun wq ho => by
            obtain ⟨c1, f1⟩ := ho.cell (i := q) (by omega)
            obtain ⟨c2, f2⟩ := ho.cell (i := q + 1) hqn
            rw [GQ] at c1
            rw [GP] at c2
            exact ⟨⟨c1, c2⟩, f1, f2⟩
          obtain ⟨p, hp⟩ : ∃ p, q + 1 = p := ⟨_, rfl⟩
          rw [hp] at CG SW1 hqn
          have ga : (a : Int) < ((q + 1 : Nat) : Int) := by omega
          have ew : IntKind.i64.wrap (((q + 1 : Nat) : Int) - 1) = (q : Int) := by rw [show ((q + 1 : Nat) : Int) - 1 = (q : Int) by omega]; exact IntWalk.i64_in _ (by omega)
          rw [hp] at ga ew ⊢
          have pi : (p : Int) < (n : Int) := by omega
          have qi : (q : Int) < (n : Int) := by omega
          have npq : ¬ p = q := by omega
          have nqp : ¬ q = p := by omega
          have qp : q < p := by omega
          obtain ⟨xf, xt, xn⟩ := x
          obtain ⟨zf, zt, zn⟩ := z
          have BC : Hid (∀ w', Below wr.heap.size wr w' → Calls Try.prog 22 #[.agg #[.int .i64 xf, .int .i64 xt, .int .i64 xn], .agg #[.int .i64 zf, .int .i64 zt, .int .i64 zn]] w' fun e w'' => e = .returned (.int .i64 (xn - zn)) ∧ Below wr.heap.size wr w'') := fun w' hb => (BC0 w').mono fun e w'' h => ⟨h.1, hb.trans (h.2.mono hb.size)⟩
          have KX : Hid (kN (xf, xt, xn) = xn ∧ kN (zf, zt, zn) = zn) := ⟨rfl, rfl⟩
          rw [KX.out.1, KX.out.2] at FIN NXT
          simp only at CG
          obtain ⟨⟨⟨z0, z1, z2⟩, x0, x1, x2⟩, _⟩ := CG.out wr OW1.out
          have KS : Hid (∀ w', Below wr.heap.size wr w' → (w'.cell? ⟨g, q * 3, none⟩ = some (.int .i64 zf) ∧ w'.cell? ⟨g, q * 3 + 1, none⟩ = some (.int .i64 zt) ∧ w'.cell? ⟨g, q * 3 + 2, none⟩ = some (.int .i64 zn)) ∧ w'.cell? ⟨g, p * 3, none⟩ = some (.int .i64 xf) ∧ w'.cell? ⟨g, p * 3 + 1, none⟩ = some (.int .i64 xt) ∧ w'.cell? ⟨g, p * 3 + 2, none⟩ = some (.int .i64 xn)) := fun w' hb => (CG.out w' (OW1.out.below hb)).1
          generalize (P ++ T) ++ (xf, xt, xn) :: (zf, zt, zn) :: (S2 ++ R2) = D2 at *
          generalize (P ++ T) ++ (zf, zt, zn) :: (xf, xt, xn) :: (S2 ++ R2) = D1 at *
          clear OW eD eL GQ GP SMZ BC0 KX hj hp hne NX0 HS HG hq SMX
          by_cases hlt : xn < zn
          · have hc : xn - zn < 0 := by omega
            have NX := Lib.hid (NXT.out hlt)
            clear NXT FIN hlt
            go_wp2_with fail
            go_region_held3 (fun w' => (w'.cell? ⟨g, q * 3, none⟩ = some (.int .i64 zf) ∧ w'.cell? ⟨g, q * 3 + 1, none⟩ = some (.int .i64 zt) ∧ w'.cell? ⟨g, q * 3 + 2, none⟩ = some (.int .i64 zn)) ∧ w'.cell? ⟨g, p * 3, none⟩ = some (.int .i64 xf) ∧ w'.cell? ⟨g, p * 3 + 1, none⟩ = some (.int .i64 xt) ∧ w'.cell? ⟨g, p * 3 + 2, none⟩ = some (.int .i64 xn))
              (first | exact ⟨⟨z0, z1, z2⟩, x0, x1, x2⟩ | exact KS.out _ BX.out)
              (first | (go_at_call 22; refine (BC.out _ (by repeat (first | exact Below.refl _ _ | refine Below.drew ?_))).mono ?_; rintro e w5 ⟨rfl, bel5⟩; have BX := Lib.hid bel5; clear bel5))
            all_goals
              have OW5 := Lib.hid (OW1.out.below BX.out)
              obtain ⟨⟨⟨a0, a1, a2⟩, a3, a4, a5⟩, ⟨b0, b1, b2⟩, b3, b4, b5⟩ := CG.out w5 OW5.out
              clear z0 z1 z2 x0 x1 x2 KS BC CG
              go_wp2_with fail
              go_region_law (fail)
              all_goals
                go_wp2_with fail
                refine ⟨?_, by simp [RowKit.intOf]; omega⟩
                first
                  | (refine NX.out _ ?_; rw [← SW1.out]; exact ((OW5.out.set2 (i := p) hqn zf zt zn).set2 (i := q) (by omega) xf xt xn).drew)
                  | (refine NX.out _ ?_; rw [← SW1.out, List.set_comm _ _ npq]; exact ((OW5.out.set2 (i := q) (by omega) xf xt xn).set2 (i := p) hqn zf zt zn).drew)
          · have hc : ¬ xn - zn < 0 := by omega
            have FN : Hid (∀ wq, Below wr.heap.size wr wq → RelI0 w0 B base g cap n a P A R (.int .i64 ((i : Int) + 1)) wq) := fun wq hb => FIN.out hlt wq (OW1.out.below hb)
            clear NXT FIN hlt
            go_wp2_with fail
            go_region_held3 (fun w' => (w'.cell? ⟨g, q * 3, none⟩ = some (.int .i64 zf) ∧ w'.cell? ⟨g, q * 3 + 1, none⟩ = some (.int .i64 zt) ∧ w'.cell? ⟨g, q * 3 + 2, none⟩ = some (.int .i64 zn)) ∧ w'.cell? ⟨g, p * 3, none⟩ = some (.int .i64 xf) ∧ w'.cell? ⟨g, p * 3 + 1, none⟩ = some (.int .i64 xt) ∧ w'.cell? ⟨g, p * 3 + 2, none⟩ = some (.int .i64 xn))
              (first | exact ⟨⟨z0, z1, z2⟩, x0, x1, x2⟩ | exact KS.out _ BX.out)
              (first | (go_at_call 22; refine (BC.out _ (by repeat (first | exact Below.refl _ _ | refine Below.drew ?_))).mono ?_; rintro e w5 ⟨rfl, bel5⟩; have BX := Lib.hid bel5; clear bel5))
            all_goals
              have G := Lib.hid (FN.out w5 BX.out)
              clear z0 z1 z2 x0 x1 x2 KS BC CG
              go_wp2_with fail
              exact ⟨by simpa using G.out, by simp [RowKit.intOf]; omega⟩
    · have F : Hid (∃ S, SrtK kN S ∧ Stb kN A S ∧ OD w0 B base g cap n (P ++ S ++ R) wr) := by
        have e1 : A.take k = A := List.take_of_length_le (by omega)
        have e2 : A.drop k = [] := List.drop_eq_nil_of_le (by omega)
        have h1 := SB.out
        have h2 := OW.out
        rw [e1] at h1
        rw [e2, List.append_nil] at h2
        exact ⟨S, SR.out, h1, h2⟩
      have kb : ¬ ((a + k : Nat) : Int) < (b : Int) := by have := HBb.out; have := HA.out; omega
      obtain ⟨i, hi⟩ : ∃ i, a + k = i := ⟨_, rfl⟩
      rw [hi] at kb ⊢
      clear OW
      go_wp2_with fail
      go_end0
      exact ⟨rfl, by simpa using F.out⟩
end Go.Proofs.Ytljojgpjgjfddaa
