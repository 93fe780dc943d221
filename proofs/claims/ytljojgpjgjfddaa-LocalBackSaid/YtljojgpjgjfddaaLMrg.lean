/- The contract of slices.symMergeCmpFunc at dependencies in order of their nodes. -/
import Derived.Test.YtljojgpjgjfddaaLIns
import Derived.Test.YtljojgpjgjfddaaLRot
import Derived.Deep.Cut
import Derived.Deep.CutRange
namespace Go.Proofs.Ytljojgpjgjfddaa
open Go.RowKit Go.Maps
set_option linter.unusedVariables false
set_option linter.unusedSimpArgs false

section
variable {w0 w w' : World} {B base g cap n : Nat}
/-- Two elements of the row, at different places. -/
def Two (g p q : Nat) (x y : Dp) (w' : World) : Prop :=
  ((w'.cell? ⟨g, p * 3, none⟩ = some (.int .i64 x.1) ∧ w'.cell? ⟨g, p * 3 + 1, none⟩ = some (.int .i64 x.2.1) ∧ w'.cell? ⟨g, p * 3 + 2, none⟩ = some (.int .i64 x.2.2)) ∧ w'.cell? ⟨g, q * 3, none⟩ = some (.int .i64 y.1) ∧ w'.cell? ⟨g, q * 3 + 1, none⟩ = some (.int .i64 y.2.1) ∧ w'.cell? ⟨g, q * 3 + 2, none⟩ = some (.int .i64 y.2.2))
theorem OD.two {D : List Dp} (h : OD w0 B base g cap n D w) {p q : Nat} (hp : p < n) (hq : q < n) : Two g p q (D.getD p d0) (D.getD q d0) w ∧ (w.frozen? ⟨g, p * 3, none⟩ = false ∧ w.frozen? ⟨g, p * 3 + 1, none⟩ = false ∧ w.frozen? ⟨g, p * 3 + 2, none⟩ = false) ∧ w.frozen? ⟨g, q * 3, none⟩ = false ∧ w.frozen? ⟨g, q * 3 + 1, none⟩ = false ∧ w.frozen? ⟨g, q * 3 + 2, none⟩ = false := by
  obtain ⟨c1, f1⟩ := h.cell hp
  obtain ⟨c2, f2⟩ := h.cell hq
  exact ⟨⟨c1, c2⟩, f1, f2⟩
/-- Where the pieces of a row lie. -/
theorem at_l {P A R : List Dp} {a i : Nat} (ha : a = P.length) (hi : i < A.length) : (P ++ A ++ R).getD (a + i) d0 = A.getD i d0 := by
  subst ha
  rw [List.append_assoc, getD_app_r, getD_app_l hi]
theorem at_r {P A C R : List Dp} {m i : Nat} (hm : m = P.length + A.length) (hi : i < C.length) : (P ++ A ++ C ++ R).getD (m + i) d0 = C.getD i d0 := by
  have : m = (P ++ A).length := by rw [List.length_append]; exact hm
  exact at_l this hi
end
theorem getD_mem2 {l : List Dp} {i : Nat} (h : i < l.length) : l.getD i d0 ∈ l := by simp [List.getD, h]
theorem adj_get {L1 L2 : List Dp} {z x : Dp} : (L1 ++ z :: x :: L2).getD L1.length d0 = z ∧ (L1 ++ z :: x :: L2).getD (L1.length + 1) d0 = x := by
  constructor
  · simp [List.getD]
  · rw [show L1.length + 1 = (L1 ++ [z]).length by simp, show L1 ++ z :: x :: L2 = (L1 ++ [z]) ++ x :: L2 by simp]
    simp [List.getD]
theorem fin1 {x0 : Dp} {C : List Dp} {t : Nat} (sC : SrtK kN C) (ht : t ≤ C.length) (h1 : t = 0 ∨ kN (C.getD (t - 1) d0) < kN x0) (h2 : t = C.length ∨ ¬ kN (C.getD t d0) < kN x0) :
    SrtK kN (C.take t ++ x0 :: C.drop t) ∧ Stb kN ([x0] ++ C) (C.take t ++ x0 :: C.drop t) := by
  have hle : ∀ y ∈ C.drop t, kN x0 ≤ kN y := fun y hy => by
    obtain ⟨i, i1, i2, rfl⟩ := mem_drop_idx (d := d0) hy
    have := srt_le (d := d0) sC i1 i2
    rcases h2 with h2 | h2 <;> omega
  have hlt : ∀ y ∈ C.take t, kN y < kN x0 := fun y hy => by
    obtain ⟨i, i1, i2, rfl⟩ := mem_take_idx (d := d0) hy
    have := srt_le (d := d0) sC (show i ≤ t - 1 by omega) (by omega)
    rcases h1 with h1 | h1 <;> omega
  have hB : SrtK kN (C.take t ++ C.drop t) := by rw [List.take_append_drop]; exact sC
  have := sym_join (key := kN) (X := []) (U := [x0]) (V := C.take t) (Y := C.drop t) (S1 := C.take t) (S2 := x0 :: C.drop t) (SrtK.one x0) hB (fun u hu v hv => by rw [List.mem_singleton] at hu; subst hu; exact hlt v hv) (fun x hx => by cases hx)
    (sC.take t) (List.pairwise_cons.2 ⟨hle, sC.drop t⟩) (Stb.refl _) (Stb.refl _)
  rw [List.take_append_drop] at this
  simpa using this
theorem fin2 {y0 : Dp} {A : List Dp} {t : Nat} (sA : SrtK kN A) (ht : t ≤ A.length) (h1 : t = 0 ∨ ¬ kN y0 < kN (A.getD (t - 1) d0)) (h2 : t = A.length ∨ kN y0 < kN (A.getD t d0)) :
    SrtK kN (A.take t ++ y0 :: A.drop t) ∧ Stb kN (A ++ [y0]) (A.take t ++ y0 :: A.drop t) := by
  have hs : SrtK kN (A.take t ++ A.drop t) := by rw [List.take_append_drop]; exact sA
  have := ins_ok (key := kN) (x := y0) hs (fun y hy => by
    obtain ⟨i, i1, i2, rfl⟩ := mem_take_idx (d := d0) hy
    have := srt_le (d := d0) sA (show i ≤ t - 1 by omega) (by omega)
    rcases h1 with h1 | h1 <;> omega) (fun y hy => by
    obtain ⟨i, i1, i2, rfl⟩ := mem_drop_idx (d := d0) hy
    have := srt_le (d := d0) sA i1 i2
    rcases h2 with h2 | h2 <;> omega)
  rw [List.take_append_drop] at this
  exact this
theorem OD.set3 {w0 w : World} {B base g cap n : Nat} {D : List Dp} (h : OD w0 B base g cap n D w) {i : Nat} (hi : i < n) (x : Dp) : OD w0 B base g cap n (D.set i x) (((w.setCell ⟨g, i * 3, none⟩ (.int .i64 x.1)).setCell ⟨g, i * 3 + 1, none⟩ (.int .i64 x.2.1)).setCell ⟨g, i * 3 + 2, none⟩ (.int .i64 x.2.2)) := by
  have h1 := h.set hi x
  rw [show i * 3 + 1 + 1 = i * 3 + 2 from rfl] at h1
  exact h1
def RelB1 (w0 : World) (B base g cap n m b : Nat) (x0 : Dp) (C D : List Dp) (i j : Value) (wr : World) : Prop :=
  ∃ u v : Nat, u ≤ v ∧ v ≤ C.length ∧ i = .int .i64 ((m + u : Nat) : Int) ∧ j = .int .i64 ((m + v : Nat) : Int) ∧ (u = 0 ∨ kN (C.getD (u - 1) d0) < kN x0) ∧ (v = C.length ∨ ¬ kN (C.getD v d0) < kN x0) ∧ OD w0 B base g cap n D wr
def RelS1 (w0 : World) (B base g cap n a t : Nat) (x0 : Dp) (P C R : List Dp) (k : Value) (wr : World) : Prop :=
  ∃ u : Nat, u ≤ t ∧ k = .int .i64 ((a + u : Nat) : Int) ∧ OD w0 B base g cap n (P ++ C.take u ++ x0 :: C.drop u ++ R) wr
def RelB2 (w0 : World) (B base g cap n a : Nat) (y0 : Dp) (A D : List Dp) (i j : Value) (wr : World) : Prop :=
  ∃ u v : Nat, u ≤ v ∧ v ≤ A.length ∧ i = .int .i64 ((a + u : Nat) : Int) ∧ j = .int .i64 ((a + v : Nat) : Int) ∧ (u = 0 ∨ ¬ kN y0 < kN (A.getD (u - 1) d0)) ∧ (v = A.length ∨ kN y0 < kN (A.getD v d0)) ∧ OD w0 B base g cap n D wr
def RelS2 (w0 : World) (B base g cap n a t : Nat) (y0 : Dp) (P A R : List Dp) (k : Value) (wr : World) : Prop :=
  ∃ c : Nat, t ≤ c ∧ c ≤ A.length ∧ k = .int .i64 ((a + c : Nat) : Int) ∧ OD w0 B base g cap n (P ++ A.take c ++ y0 :: A.drop c ++ R) wr
def RelB3 (w0 : World) (B base g cap n s0 r0 pp : Nat) (D : List Dp) (i j : Value) (wr : World) : Prop :=
  ∃ st r : Nat, s0 ≤ st ∧ st ≤ r ∧ r ≤ r0 ∧ i = .int .i64 (st : Int) ∧ j = .int .i64 (r : Int) ∧ (st = s0 ∨ ¬ kN (D.getD (pp - (st - 1)) d0) < kN (D.getD (st - 1) d0)) ∧ (r = r0 ∨ kN (D.getD (pp - r) d0) < kN (D.getD r d0)) ∧ OD w0 B base g cap n D wr
set_option maxRecDepth 100000 in
set_option maxHeartbeats 16000000 in
theorem symM_any (w0 : World) (B base g cap n : Nat) (hn : n ≤ 1000) : ∀ (N a m b : Nat) (P A C R : List Dp) (w : World), A.length + C.length ≤ N → a = P.length → m = P.length + A.length → b = P.length + A.length + C.length → 0 < A.length → 0 < C.length →
    SmN (P ++ A ++ C ++ R) → SrtK kN A → SrtK kN C → OD w0 B base g cap n (P ++ A ++ C ++ R) w →
    Calls Try.prog 92 #[.slice (some ⟨g, 0, none⟩) n cap, .int .i64 (a : Int), .int .i64 (m : Int), .int .i64 (b : Int), cmpV] w fun e w' => e = .returned (.tuple #[]) ∧ ∃ S, SrtK kN S ∧ Stb kN (A ++ C) S ∧ OD w0 B base g cap n (P ++ S ++ R) w' := by
  intro N
  induction N with
  | zero => intro a m b P A C R w h1 _ _ _ h2; omega
  | succ N ih =>
    intro a m b P A C R w hN ha hm hb hA hC hs sA sC h
    have IH := Lib.hid ih
    have hl := h.len
    simp only [List.length_append] at hl
    have HL := Lib.hid hl
    have HA := Lib.hid ha
    have HM := Lib.hid hm
    have HBb := Lib.hid hb
    have HN := Lib.hid hN
    have SA := Lib.hid sA
    have SC := Lib.hid sC
    have SM := Lib.hid hs
    have bn : b ≤ n := by omega
    have mb : m < b := by omega
    have am : a < m := by omega
    clear ih hl hN sA sC hs ha hm hb
    by_cases hA1 : m = a + 1
    · have hA1' : A.length = 1 := by have := HA.out; have := HM.out; omega
      obtain ⟨x0, hx0⟩ : ∃ x0, A = [x0] := by
        match A, hA1' with
        | [x], _ => exact ⟨x, rfl⟩
      subst hx0
      have e1 : IntKind.i64.wrap ((m : Int) - (a : Int)) = 1 := by rw [show (m : Int) - a = 1 by omega]; rfl
      have ST : Hid (RelB1 w0 B base g cap n m b x0 C (P ++ [x0] ++ C ++ R) (.int .i64 (m : Int)) (.int .i64 (b : Int)) w) :=
        ⟨0, C.length, Nat.zero_le _, Nat.le_refl _, rfl, by congr 1; have := HM.out; have := HBb.out; omega, .inl rfl, .inl rfl, h⟩
      have HA1 := Lib.hid hA1
      clear h hA1
      go_enter Try.func92, Try.ntmps92
      unfold cmpV
      go_wp2_with fail
      clear e1
      go_loopw [10, 11] (fun i j wr => RelB1 w0 B base g cap n m b x0 C (P ++ [x0] ++ C ++ R) i j wr) (fun i j _ => (RowKit.intOf j).toNat - (RowKit.intOf i).toNat)
      case atStart => exact ST.out
      case round =>
        clear ST
        obtain ⟨u, v, huv, hv, rfl, rfl, hl1, hl2, hod⟩ := hrel
        have OW := Lib.hid hod
        have L1 := Lib.hid hl1
        have L2 := Lib.hid hl2
        have HC : Hid (b = m + C.length) := by rw [Hid]; have := HM.out; have := HBb.out; omega
        clear hod hl1 hl2
        by_cases huv2 : u < v
        · obtain ⟨r, hr⟩ : ∃ r, (u + v) / 2 = r := ⟨_, rfl⟩
          obtain ⟨i, hi⟩ : ∃ i, m + u = i := ⟨_, rfl⟩
          obtain ⟨j, hj⟩ : ∃ j, m + v = j := ⟨_, rfl⟩
          obtain ⟨p, hp⟩ : ∃ p, m + r = p := ⟨_, rfl⟩
          have ij : i < j := by omega
          have jb : j ≤ b := by have := HC.out; omega
          have pj : p < j := by omega
          have ip : i ≤ p := by omega
          have eh : ((i : Int) + (j : Int)) / 2 = (p : Int) := by omega
          have pi : (p : Int) < (n : Int) := by omega
          have ai : (a : Int) < (n : Int) := by omega
          have hrc : r < C.length := by omega
          have GP : (P ++ [x0] ++ C ++ R).getD p d0 = (C.getD r d0) := by rw [← hp]; exact at_r (by have := HM.out; simpa using this) hrc
          have GQ : (P ++ [x0] ++ C ++ R).getD a d0 = x0 := by have := at_l (P := P) (A := [x0]) (R := C ++ R) (a := a) (i := 0) HA.out (by simp); simpa using this
          have KS : Hid (∀ w', Below wr.heap.size wr w' → ((w'.cell? ⟨g, p * 3, none⟩ = some (.int .i64 (C.getD r d0).1) ∧ w'.cell? ⟨g, p * 3 + 1, none⟩ = some (.int .i64 (C.getD r d0).2.1) ∧ w'.cell? ⟨g, p * 3 + 2, none⟩ = some (.int .i64 (C.getD r d0).2.2)) ∧ w'.cell? ⟨g, a * 3, none⟩ = some (.int .i64 x0.1) ∧ w'.cell? ⟨g, a * 3 + 1, none⟩ = some (.int .i64 x0.2.1) ∧ w'.cell? ⟨g, a * 3 + 2, none⟩ = some (.int .i64 x0.2.2))) := fun w' hb => by
            have := ((OW.out.below hb).two (p := p) (q := a) (by omega) (by omega)).1
            rw [GP, GQ] at this
            exact this
          have BC : Hid (∀ w', Below wr.heap.size wr w' → Calls Try.prog 22 #[.agg #[.int .i64 (C.getD r d0).1, .int .i64 (C.getD r d0).2.1, .int .i64 (C.getD r d0).2.2], .agg #[.int .i64 x0.1, .int .i64 x0.2.1, .int .i64 x0.2.2]] w' fun e w'' => e = .returned (.int .i64 (kN (C.getD r d0) - kN x0)) ∧ Below wr.heap.size wr w'') := fun w' hb => (back1_any (C.getD r d0) x0 w' (SM.out _ (List.mem_append_left _ (List.mem_append_right _ (getD_mem2 hrc)))) (SM.out _ (by simp))).mono fun e w'' h => ⟨h.1, hb.trans (h.2.mono hb.size)⟩
          obtain ⟨⟨z0, z1, z2⟩, x0', x1', x2'⟩ := KS.out wr (Below.refl _ _)
          have N1 : Hid (kN (C.getD r d0) < kN x0 → ∀ wq, Below wr.heap.size wr wq → RelB1 w0 B base g cap n m b x0 C (P ++ [x0] ++ C ++ R) (.int .i64 ((p : Int) + 1)) (.int .i64 (j : Int)) wq) := fun h wq hb => ⟨r + 1, v, by omega, hv, by congr 1; omega, by congr 1; omega, .inr (by simpa using h), L2.out, OW.out.below hb⟩
          have N2 : Hid (¬ kN (C.getD r d0) < kN x0 → ∀ wq, Below wr.heap.size wr wq → RelB1 w0 B base g cap n m b x0 C (P ++ [x0] ++ C ++ R) (.int .i64 (i : Int)) (.int .i64 (p : Int)) wq) := fun h wq hb => ⟨u, r, by omega, by omega, by congr 1; omega, by congr 1; omega, L1.out, .inr h, OW.out.below hb⟩
          rw [hi, hj]
          generalize C.getD r d0 = y0 at *
          clear GP GQ hi hj hp hr OW L1 L2 hrc
          by_cases hlt : kN y0 < kN x0
          · have hc : kN y0 - kN x0 < 0 := by omega
            have NX := Lib.hid (N1.out hlt)
            clear N1 N2 hlt
            go_wp2_with fail
            go_region_held3 (fun w' => ((w'.cell? ⟨g, p * 3, none⟩ = some (.int .i64 y0.1) ∧ w'.cell? ⟨g, p * 3 + 1, none⟩ = some (.int .i64 y0.2.1) ∧ w'.cell? ⟨g, p * 3 + 2, none⟩ = some (.int .i64 y0.2.2)) ∧ w'.cell? ⟨g, a * 3, none⟩ = some (.int .i64 x0.1) ∧ w'.cell? ⟨g, a * 3 + 1, none⟩ = some (.int .i64 x0.2.1) ∧ w'.cell? ⟨g, a * 3 + 2, none⟩ = some (.int .i64 x0.2.2)))
              (first | exact ⟨⟨z0, z1, z2⟩, x0', x1', x2'⟩ | exact KS.out _ BX.out)
              (first | (go_at_call 22; refine (BC.out _ (by repeat (first | exact Below.refl _ _ | refine Below.drew ?_))).mono ?_; rintro e w5 ⟨rfl, bel5⟩; have BX := Lib.hid bel5; clear bel5))
            all_goals
              have G := Lib.hid (NX.out w5 BX.out)
              clear z0 z1 z2 x0' x1' x2' KS BC NX
              go_wp2_with fail
              exact ⟨by simpa using G.out, by simp [RowKit.intOf]; omega⟩
          · have hc : ¬ kN y0 - kN x0 < 0 := by omega
            have NX := Lib.hid (N2.out hlt)
            clear N1 N2 hlt
            go_wp2_with fail
            go_region_held3 (fun w' => ((w'.cell? ⟨g, p * 3, none⟩ = some (.int .i64 y0.1) ∧ w'.cell? ⟨g, p * 3 + 1, none⟩ = some (.int .i64 y0.2.1) ∧ w'.cell? ⟨g, p * 3 + 2, none⟩ = some (.int .i64 y0.2.2)) ∧ w'.cell? ⟨g, a * 3, none⟩ = some (.int .i64 x0.1) ∧ w'.cell? ⟨g, a * 3 + 1, none⟩ = some (.int .i64 x0.2.1) ∧ w'.cell? ⟨g, a * 3 + 2, none⟩ = some (.int .i64 x0.2.2)))
              (first | exact ⟨⟨z0, z1, z2⟩, x0', x1', x2'⟩ | exact KS.out _ BX.out)
              (first | (go_at_call 22; refine (BC.out _ (by repeat (first | exact Below.refl _ _ | refine Below.drew ?_))).mono ?_; rintro e w5 ⟨rfl, bel5⟩; have BX := Lib.hid bel5; clear bel5))
            all_goals
              have G := Lib.hid (NX.out w5 BX.out)
              clear z0 z1 z2 x0' x1' x2' KS BC NX
              go_wp2_with fail
              exact ⟨by simpa using G.out, by simp [RowKit.intOf]; omega⟩
        · obtain rfl : u = v := by omega
          have hsame := fin1 (x0 := x0) SC.out hv L1.out L2.out
          have FS := Lib.hid hsame
          have SS : Hid (RelS1 w0 B base g cap n a u x0 P C R (.int .i64 (a : Int)) wr) := ⟨0, Nat.zero_le _, rfl, by simpa using OW.out⟩
          obtain ⟨i, hi⟩ : ∃ i, m + u = i := ⟨_, rfl⟩
          have ei : IntKind.i64.wrap ((i : Int) - 1) = ((a + u : Nat) : Int) := by rw [show (i : Int) - 1 = ((a + u : Nat) : Int) by have := HA1.out; omega]; exact IntWalk.i64_in _ (by have := HC.out; omega)
          obtain ⟨t, ht⟩ : ∃ t, a + u = t := ⟨_, rfl⟩
          rw [ht] at ei
          rw [hi]
          have tn : t < n := by have := HC.out; omega
          have HT := Lib.hid ht
          have HI := Lib.hid hi
          clear hsame OW L1 L2 hi ht
          go_wp2_with fail
          go_loopw [13] (fun k wr => RelS1 w0 B base g cap n a u x0 P C R k wr) (fun k _ => t - (RowKit.intOf k).toNat)
          case atStart => exact SS.out
          case round =>
            clear SS
            obtain ⟨c, hc, rfl, hod⟩ := hrel
            have OW := Lib.hid hod
            clear hod
            obtain ⟨q, hq⟩ : ∃ q, a + c = q := ⟨_, rfl⟩
            obtain ⟨p, hp⟩ : ∃ p, q + 1 = p := ⟨_, rfl⟩
            by_cases hct : c < u
            · have hcc : c < C.length := by omega
              have hqt : (q : Int) < (t : Int) := by have := HT.out; omega
              have eD : P ++ C.take c ++ x0 :: C.drop c ++ R = (P ++ C.take c) ++ x0 :: C.getD c d0 :: (C.drop (c + 1) ++ R) := by rw [drop_cons d0 hcc]; simp
              have eL : (P ++ C.take c).length = q := by rw [List.length_append, List.length_take]; have := HA.out; omega
              have OW1 : Hid (OD w0 B base g cap n ((P ++ C.take c) ++ x0 :: C.getD c d0 :: (C.drop (c + 1) ++ R)) wr) := by rw [Hid, ← eD]; exact OW.out
              obtain ⟨GQ, GP⟩ := adj_get (L1 := P ++ C.take c) (L2 := C.drop (c + 1) ++ R) (z := x0) (x := C.getD c d0)
              have SW1 : Hid ((((P ++ C.take c) ++ x0 :: C.getD c d0 :: (C.drop (c + 1) ++ R)).set p x0).set q (C.getD c d0) = (P ++ C.take c) ++ C.getD c d0 :: x0 :: (C.drop (c + 1) ++ R)) := by rw [Hid, ← hp, ← eL]; exact sw_adj _ _ _ _
              rw [eL] at GQ GP
              rw [hp] at GP
              have NXT : Hid (∀ wq, OD w0 B base g cap n ((P ++ C.take c) ++ C.getD c d0 :: x0 :: (C.drop (c + 1) ++ R)) wq → RelS1 w0 B base g cap n a u x0 P C R (.int .i64 ((q : Int) + 1)) wq) := fun wq ho =>
                ⟨c + 1, by omega, by congr 1; omega, by rw [take_snocG d0 C c hcc]; simpa using ho⟩
              obtain ⟨⟨⟨a0, a1, a2⟩, a3, a4, a5⟩, ⟨b0, b1, b2⟩, b3, b4, b5⟩ := OW1.out.two (p := q) (q := p) (by omega) (by have := HT.out; omega)
              rw [GQ] at a0 a1 a2
              rw [GP] at a3 a4 a5
              have pi : (p : Int) < (n : Int) := by have := HT.out; omega
              have qi : (q : Int) < (n : Int) := by omega
              have npq : ¬ p = q := by omega
              have nqp : ¬ q = p := by omega
              have e1 : IntKind.i64.wrap ((q : Int) + 1) = (p : Int) := by rw [show (q : Int) + 1 = (p : Int) by omega]; exact IntWalk.i64_in _ (by omega)
              have qp1 : (p : Int) = (q : Int) + 1 := by omega
              have PQ := Lib.hid qp1
              have hpn : p < n := by have := HT.out; omega
              have hqn : q < n := by omega
              rw [← PQ.out] at NXT
              rw [hq]
              generalize C.getD c d0 = y0 at *
              generalize (P ++ C.take c) ++ y0 :: x0 :: (C.drop (c + 1) ++ R) = D2 at *
              generalize (P ++ C.take c) ++ x0 :: y0 :: (C.drop (c + 1) ++ R) = D1 at *
              have qlt : q < p := by omega
              clear eD eL GQ GP hq hp OW hcc qp1
              go_wp2_with fail
              go_region_law (fail)
              all_goals
                go_wp2_with fail
                refine ⟨?_, by simp [RowKit.intOf]; omega⟩
                first
                  | (refine NXT.out _ ?_; rw [← SW1.out]; with_reducible exact ((OW1.out.set3 (i := p) hpn x0).set3 (i := q) hqn y0).drew)
                  | (refine NXT.out _ ?_; rw [← SW1.out, List.set_comm _ _ npq]; with_reducible exact ((OW1.out.set3 (i := q) hqn y0).set3 (i := p) hpn x0).drew)
            · obtain rfl : c = u := by omega
              have F : Hid (∃ S, SrtK kN S ∧ Stb kN ([x0] ++ C) S ∧ OD w0 B base g cap n (P ++ S ++ R) wr) := ⟨_, FS.out.1, FS.out.2, by simpa using OW.out⟩
              have hqt : ¬ (q : Int) < (t : Int) := by have := HT.out; omega
              rw [hq]
              clear hq hp OW
              go_wp2_with fail
              ((try simp only [Exit.inBlock, Exit.then]); refine bodyPost_ret (results_none rfl _ _ _) rfl ?_)
              exact ⟨rfl, by simpa using F.out⟩
    · obtain ⟨ma, hma⟩ : ∃ ma, m - a = ma := ⟨_, rfl⟩
      have e1 : IntKind.i64.wrap ((m : Int) - (a : Int)) = (ma : Int) := by rw [show (m : Int) - a = (ma : Int) by omega]; exact IntWalk.i64_in _ (by omega)
      have q1 : ((ma : Int) == 1) = false := by rw [beq_eq_false_iff_ne]; omega
      by_cases hC1 : b = m + 1
      · have hC1' : C.length = 1 := by have := HBb.out; have := HM.out; omega
        obtain ⟨y0, hy0⟩ : ∃ y0, C = [y0] := by
          match C, hC1' with
          | [x], _ => exact ⟨x, rfl⟩
        subst hy0
        have e2 : IntKind.i64.wrap ((b : Int) - (m : Int)) = 1 := by rw [show (b : Int) - m = 1 by omega]; rfl
        have ST : Hid (RelB2 w0 B base g cap n a y0 A (P ++ A ++ [y0] ++ R) (.int .i64 (a : Int)) (.int .i64 (m : Int)) w) :=
          ⟨0, A.length, Nat.zero_le _, Nat.le_refl _, rfl, by congr 1; have := HM.out; have := HA.out; omega, .inl rfl, .inl rfl, h⟩
        have HC1 := Lib.hid hC1
        have HA1 := Lib.hid hA1
        clear h hA1 hC1 hma
        go_enter Try.func92, Try.ntmps92
        unfold cmpV
        go_wp2_with fail
        clear e1 e2 q1
        go_loopw [14, 15] (fun i j wr => RelB2 w0 B base g cap n a y0 A (P ++ A ++ [y0] ++ R) i j wr) (fun i j _ => (RowKit.intOf j).toNat - (RowKit.intOf i).toNat)
        case atStart => exact ST.out
        case round =>
          clear ST
          obtain ⟨u, v, huv, hv, rfl, rfl, hl1, hl2, hod⟩ := hrel
          have OW := Lib.hid hod
          have L1 := Lib.hid hl1
          have L2 := Lib.hid hl2
          have HC : Hid (m = a + A.length) := by rw [Hid]; have := HM.out; have := HA.out; omega
          clear hod hl1 hl2
          by_cases huv2 : u < v
          · obtain ⟨r, hr⟩ : ∃ r, (u + v) / 2 = r := ⟨_, rfl⟩
            obtain ⟨i, hi⟩ : ∃ i, a + u = i := ⟨_, rfl⟩
            obtain ⟨j, hj⟩ : ∃ j, a + v = j := ⟨_, rfl⟩
            obtain ⟨p, hp⟩ : ∃ p, a + r = p := ⟨_, rfl⟩
            have ij : i < j := by omega
            have jb : j ≤ m := by have := HC.out; omega
            have pj : p < j := by omega
            have ip : i ≤ p := by omega
            have eh : ((i : Int) + (j : Int)) / 2 = (p : Int) := by omega
            have pi : (p : Int) < (n : Int) := by omega
            have mi : (m : Int) < (n : Int) := by omega
            have hrc : r < A.length := by omega
            have GP : (P ++ A ++ [y0] ++ R).getD m d0 = y0 := by have := at_r (P := P) (A := A) (C := [y0]) (R := R) (m := m) (i := 0) HM.out (by simp); simpa using this
            have GQ : (P ++ A ++ [y0] ++ R).getD p d0 = (A.getD r d0) := by rw [← hp, List.append_assoc (P ++ A)]; exact at_l HA.out hrc
            have KS : Hid (∀ w', Below wr.heap.size wr w' → ((w'.cell? ⟨g, m * 3, none⟩ = some (.int .i64 y0.1) ∧ w'.cell? ⟨g, m * 3 + 1, none⟩ = some (.int .i64 y0.2.1) ∧ w'.cell? ⟨g, m * 3 + 2, none⟩ = some (.int .i64 y0.2.2)) ∧ w'.cell? ⟨g, p * 3, none⟩ = some (.int .i64 (A.getD r d0).1) ∧ w'.cell? ⟨g, p * 3 + 1, none⟩ = some (.int .i64 (A.getD r d0).2.1) ∧ w'.cell? ⟨g, p * 3 + 2, none⟩ = some (.int .i64 (A.getD r d0).2.2))) := fun w' hb => by
              have := ((OW.out.below hb).two (p := m) (q := p) (by omega) (by omega)).1
              rw [GP, GQ] at this
              exact this
            have BC : Hid (∀ w', Below wr.heap.size wr w' → Calls Try.prog 22 #[.agg #[.int .i64 y0.1, .int .i64 y0.2.1, .int .i64 y0.2.2], .agg #[.int .i64 (A.getD r d0).1, .int .i64 (A.getD r d0).2.1, .int .i64 (A.getD r d0).2.2]] w' fun e w'' => e = .returned (.int .i64 (kN y0 - kN (A.getD r d0))) ∧ Below wr.heap.size wr w'') := fun w' hb => (back1_any y0 (A.getD r d0) w' (SM.out _ (by simp)) (SM.out _ (List.mem_append_left _ (List.mem_append_left _ (List.mem_append_right _ (getD_mem2 hrc)))))).mono fun e w'' h => ⟨h.1, hb.trans (h.2.mono hb.size)⟩
            obtain ⟨⟨z0, z1, z2⟩, x0', x1', x2'⟩ := KS.out wr (Below.refl _ _)
            have N1 : Hid (¬ kN y0 < kN (A.getD r d0) → ∀ wq, Below wr.heap.size wr wq → RelB2 w0 B base g cap n a y0 A (P ++ A ++ [y0] ++ R) (.int .i64 ((p : Int) + 1)) (.int .i64 (j : Int)) wq) := fun h wq hb => ⟨r + 1, v, by omega, hv, by congr 1; omega, by congr 1; omega, .inr (by simpa using h), L2.out, OW.out.below hb⟩
            have N2 : Hid (kN y0 < kN (A.getD r d0) → ∀ wq, Below wr.heap.size wr wq → RelB2 w0 B base g cap n a y0 A (P ++ A ++ [y0] ++ R) (.int .i64 (i : Int)) (.int .i64 (p : Int)) wq) := fun h wq hb => ⟨u, r, by omega, by omega, by congr 1; omega, by congr 1; omega, L1.out, .inr h, OW.out.below hb⟩
            rw [hi, hj]
            generalize A.getD r d0 = x0 at *
            clear GP GQ hi hj hp hr OW L1 L2 hrc
            by_cases hlt : kN y0 < kN x0
            · have hc :  kN y0 - kN x0 < 0 := by omega
              have NX := Lib.hid (N2.out hlt)
              clear N1 N2 hlt
              go_wp2_with fail
              go_region_held3 (fun w' => ((w'.cell? ⟨g, m * 3, none⟩ = some (.int .i64 y0.1) ∧ w'.cell? ⟨g, m * 3 + 1, none⟩ = some (.int .i64 y0.2.1) ∧ w'.cell? ⟨g, m * 3 + 2, none⟩ = some (.int .i64 y0.2.2)) ∧ w'.cell? ⟨g, p * 3, none⟩ = some (.int .i64 x0.1) ∧ w'.cell? ⟨g, p * 3 + 1, none⟩ = some (.int .i64 x0.2.1) ∧ w'.cell? ⟨g, p * 3 + 2, none⟩ = some (.int .i64 x0.2.2)))
                (first | exact ⟨⟨z0, z1, z2⟩, x0', x1', x2'⟩ | exact KS.out _ BX.out)
                (first | (go_at_call 22; refine (BC.out _ (by repeat (first | exact Below.refl _ _ | refine Below.drew ?_))).mono ?_; rintro e w5 ⟨rfl, bel5⟩; have BX := Lib.hid bel5; clear bel5))
              all_goals
                have G := Lib.hid (NX.out w5 BX.out)
                clear z0 z1 z2 x0' x1' x2' KS BC NX
                go_wp2_with fail
                all_goals first
                  | exact ⟨by simpa using G.out, by simp [RowKit.intOf]; omega⟩
                  | (rename_i hx; exfalso; simp at hx; omega)
            · have hc : ¬ kN y0 - kN x0 < 0 := by omega
              have NX := Lib.hid (N1.out hlt)
              clear N1 N2 hlt
              go_wp2_with fail
              go_region_held3 (fun w' => ((w'.cell? ⟨g, m * 3, none⟩ = some (.int .i64 y0.1) ∧ w'.cell? ⟨g, m * 3 + 1, none⟩ = some (.int .i64 y0.2.1) ∧ w'.cell? ⟨g, m * 3 + 2, none⟩ = some (.int .i64 y0.2.2)) ∧ w'.cell? ⟨g, p * 3, none⟩ = some (.int .i64 x0.1) ∧ w'.cell? ⟨g, p * 3 + 1, none⟩ = some (.int .i64 x0.2.1) ∧ w'.cell? ⟨g, p * 3 + 2, none⟩ = some (.int .i64 x0.2.2)))
                (first | exact ⟨⟨z0, z1, z2⟩, x0', x1', x2'⟩ | exact KS.out _ BX.out)
                (first | (go_at_call 22; refine (BC.out _ (by repeat (first | exact Below.refl _ _ | refine Below.drew ?_))).mono ?_; rintro e w5 ⟨rfl, bel5⟩; have BX := Lib.hid bel5; clear bel5))
              all_goals
                have G := Lib.hid (NX.out w5 BX.out)
                clear z0 z1 z2 x0' x1' x2' KS BC NX
                go_wp2_with fail
                all_goals first
                  | exact ⟨by simpa using G.out, by simp [RowKit.intOf]; omega⟩
                  | (rename_i hx; exfalso; simp at hx; omega)
          · obtain rfl : u = v := by omega
            have hsame := fin2 (y0 := y0) SA.out hv L1.out L2.out
            have FS := Lib.hid hsame
            have SS : Hid (RelS2 w0 B base g cap n a u y0 P A R (.int .i64 (m : Int)) wr) := ⟨A.length, hv, Nat.le_refl _, by congr 1; have := HC.out; omega, by simpa using OW.out⟩
            obtain ⟨t, ht⟩ : ∃ t, a + u = t := ⟨_, rfl⟩
            rw [ht]
            have tn : t < n := by have := HC.out; omega
            have HT := Lib.hid ht
            clear hsame OW L1 L2 ht
            go_wp2_with fail
            go_loopw [17] (fun k wr => RelS2 w0 B base g cap n a u y0 P A R k wr) (fun k _ => (RowKit.intOf k).toNat)
            case atStart => exact SS.out
            case round =>
              clear SS
              obtain ⟨c, hc, hcA, rfl, hod⟩ := hrel
              have OW := Lib.hid hod
              clear hod
              by_cases hct : u < c
              · obtain ⟨c', rfl⟩ : ∃ c', c = c' + 1 := ⟨c - 1, by omega⟩
                obtain ⟨q, hq⟩ : ∃ q, a + c' = q := ⟨_, rfl⟩
                obtain ⟨p, hp⟩ : ∃ p, q + 1 = p := ⟨_, rfl⟩
                have hcc : c' < A.length := by omega
                have hqt : (t : Int) < (p : Int) := by have := HT.out; omega
                have eD : P ++ A.take (c' + 1) ++ y0 :: A.drop (c' + 1) ++ R = (P ++ A.take c') ++ A.getD c' d0 :: y0 :: (A.drop (c' + 1) ++ R) := by rw [take_snocG d0 A c' hcc]; simp
                have eL : (P ++ A.take c').length = q := by rw [List.length_append, List.length_take]; have := HA.out; omega
                have OW1 : Hid (OD w0 B base g cap n ((P ++ A.take c') ++ A.getD c' d0 :: y0 :: (A.drop (c' + 1) ++ R)) wr) := by rw [Hid, ← eD]; exact OW.out
                obtain ⟨GQ, GP⟩ := adj_get (L1 := P ++ A.take c') (L2 := A.drop (c' + 1) ++ R) (z := A.getD c' d0) (x := y0)
                have SW1 : Hid ((((P ++ A.take c') ++ A.getD c' d0 :: y0 :: (A.drop (c' + 1) ++ R)).set p (A.getD c' d0)).set q y0 = (P ++ A.take c') ++ y0 :: A.getD c' d0 :: (A.drop (c' + 1) ++ R)) := by rw [Hid, ← hp, ← eL]; exact sw_adj _ _ _ _
                rw [eL] at GQ GP
                rw [hp] at GP
                have NXT : Hid (∀ wq, OD w0 B base g cap n ((P ++ A.take c') ++ y0 :: A.getD c' d0 :: (A.drop (c' + 1) ++ R)) wq → RelS2 w0 B base g cap n a u y0 P A R (.int .i64 (q : Int)) wq) := fun wq ho =>
                  ⟨c', by omega, by omega, by rw [hq], by rw [drop_cons d0 hcc]; simpa using ho⟩
                have hpn : p < n := by have := HC.out; omega
                have hqn : q < n := by omega
                obtain ⟨⟨⟨a0, a1, a2⟩, a3, a4, a5⟩, ⟨b0, b1, b2⟩, b3, b4, b5⟩ := OW1.out.two (p := q) (q := p) hqn hpn
                rw [GQ] at a0 a1 a2
                rw [GP] at a3 a4 a5
                have pi : (p : Int) < (n : Int) := by omega
                have qi : (q : Int) < (n : Int) := by omega
                have npq : ¬ p = q := by omega
                have nqp : ¬ q = p := by omega
                have e1 : IntKind.i64.wrap ((p : Int) - 1) = (q : Int) := by rw [show (p : Int) - 1 = (q : Int) by omega]; exact IntWalk.i64_in _ (by omega)
                rw [show a + (c' + 1) = p by omega]
                generalize A.getD c' d0 = x0 at *
                generalize (P ++ A.take c') ++ y0 :: x0 :: (A.drop (c' + 1) ++ R) = D2 at *
                generalize (P ++ A.take c') ++ x0 :: y0 :: (A.drop (c' + 1) ++ R) = D1 at *
                have qlt : q < p := by omega
                clear eD eL GQ GP hq hp OW hcc
                go_wp2_with fail
                go_region_law (fail)
                all_goals
                  go_wp2_with fail
                  refine ⟨?_, by simp [RowKit.intOf]; omega⟩
                  first
                    | (refine NXT.out _ ?_; rw [← SW1.out]; with_reducible exact ((OW1.out.set3 (i := p) hpn x0).set3 (i := q) hqn y0).drew)
                    | (refine NXT.out _ ?_; rw [← SW1.out, List.set_comm _ _ npq]; with_reducible exact ((OW1.out.set3 (i := q) hqn y0).set3 (i := p) hpn x0).drew)
              · obtain rfl : c = u := by omega
                have F : Hid (∃ S, SrtK kN S ∧ Stb kN (A ++ [y0]) S ∧ OD w0 B base g cap n (P ++ S ++ R) wr) := ⟨_, FS.out.1, FS.out.2, by simpa using OW.out⟩
                obtain ⟨q, hq⟩ : ∃ q, a + c = q := ⟨_, rfl⟩
                have hqt : ¬ (t : Int) < (q : Int) := by have := HT.out; omega
                rw [hq]
                clear hq OW
                go_wp2_with fail
                ((try simp only [Exit.inBlock, Exit.then]); refine bodyPost_ret (results_none rfl _ _ _) rfl ?_)
                exact ⟨rfl, by simpa using F.out⟩
      · obtain ⟨mb', hmb'⟩ : ∃ mb', b - m = mb' := ⟨_, rfl⟩
        have e2 : IntKind.i64.wrap ((b : Int) - (m : Int)) = (mb' : Int) := by rw [show (b : Int) - m = (mb' : Int) by omega]; exact IntWalk.i64_in _ (by omega)
        have q2 : ((mb' : Int) == 1) = false := by rw [beq_eq_false_iff_ne]; omega
        obtain ⟨mid, hmid⟩ : ∃ mid, (a + b) / 2 = mid := ⟨_, rfl⟩
        obtain ⟨nn, hnn⟩ : ∃ nn, mid + m = nn := ⟨_, rfl⟩
        obtain ⟨pp, hpp⟩ : ∃ pp, nn - 1 = pp := ⟨_, rfl⟩
        obtain ⟨s0, hs0⟩ : ∃ s0, (if m ≤ mid then a else nn - b) = s0 := ⟨_, rfl⟩
        obtain ⟨r0, hr0⟩ : ∃ r0, (if m ≤ mid then m else mid) = r0 := ⟨_, rfl⟩
        have NF : Hid ((a + 2 ≤ m ∧ m + 2 ≤ b ∧ a < mid ∧ mid < b ∧ mid + m = nn ∧ pp + 1 = nn ∧ 2 * mid ≤ a + b ∧ a + b ≤ 2 * mid + 1) ∧ ((m ≤ mid ∧ s0 = a ∧ r0 = m) ∨ (mid < m ∧ s0 + b = nn ∧ r0 = mid))) := by
          rw [Hid]
          by_cases q : m ≤ mid
          · rw [if_pos q] at hs0 hr0; omega
          · rw [if_neg q] at hs0 hr0; omega
        have em : ((a : Int) + (b : Int)) / 2 = (mid : Int) := by omega
        have midb : mid < b := by omega
        have amid : a < mid := by omega
        have nnb : nn ≤ 2000 := by omega
        have ppn : pp < nn := by omega
        have en : IntKind.i64.wrap ((mid : Int) + (m : Int)) = (nn : Int) := by rw [show (mid : Int) + m = (nn : Int) by omega]; exact IntWalk.i64_in _ (by omega)
        have ep : IntKind.i64.wrap ((nn : Int) - 1) = (pp : Int) := by rw [show (nn : Int) - 1 = (pp : Int) by omega]; exact IntWalk.i64_in _ (by omega)
        have OW0 := Lib.hid h
        have ST : Hid (RelB3 w0 B base g cap n s0 r0 pp (P ++ A ++ C ++ R) (.int .i64 (s0 : Int)) (.int .i64 (r0 : Int)) w) := ⟨s0, r0, Nat.le_refl _, by have := NF.out; omega, Nat.le_refl _, rfl, rfl, .inl rfl, .inl rfl, h⟩
        clear h hA1 hC1 hma hmb' hmid hnn hpp hs0 hr0
        go_enter Try.func92, Try.ntmps92
        unfold cmpV
        go_upto_if 140 with fail
        clear e1 e2 q1 q2 em en
        go_cut [20, 21] from 25 (fun s20 s21 wx => s20 = .int .i64 (s0 : Int) ∧ s21 = .int .i64 (r0 : Int) ∧ wx = w)
        case first =>
          by_cases hgt : mid < m
          · have hg : (mid : Int) < (m : Int) := by omega
            have es : IntKind.i64.wrap ((nn : Int) - (b : Int)) = (s0 : Int) := by rw [show (nn : Int) - b = (s0 : Int) by have := NF.out; omega]; exact IntWalk.i64_in _ (by have := NF.out; omega)
            have er : Hid (r0 = mid) := by rw [Hid]; have := NF.out; omega
            go_wp2_with fail
            go_meet
            case rel => exact ⟨rfl, by rw [er.out], rfl⟩
          · have hg : ¬ (mid : Int) < (m : Int) := by omega
            have er : Hid (r0 = m ∧ s0 = a) := by rw [Hid]; have := NF.out; omega
            go_wp2_with fail
            go_meet
            case rel => exact ⟨by rw [er.out.2], by rw [er.out.1], rfl⟩
        case rest =>
          obtain ⟨rfl, rfl, rfl⟩ := hcut
          go_wp2_with fail
          clear ep
          go_loopw [20, 21] (fun i j wr => RelB3 w0 B base g cap n s0 r0 pp (P ++ A ++ C ++ R) i j wr) (fun i j _ => (RowKit.intOf j).toNat - (RowKit.intOf i).toNat)
          case atStart => exact ST.out
          case round =>
            clear ST
            obtain ⟨st, r, hst1, hst2, hst3, rfl, rfl, hl1, hl2, hod⟩ := hrel
            have OW := Lib.hid hod
            have L1 := Lib.hid hl1
            have L2 := Lib.hid hl2
            clear hod hl1 hl2
            by_cases hsr : st < r
            · obtain ⟨c, hc⟩ : ∃ c, (st + r) / 2 = c := ⟨_, rfl⟩
              obtain ⟨pc, hpc⟩ : ∃ pc, pp - c = pc := ⟨_, rfl⟩
              have hcr : c < r := by omega
              have hsc : st ≤ c := by omega
              have hpn : pc < n := by have := NF.out; omega
              have hcn : c < n := by have := NF.out; omega
              have hpc2 : c ≤ pp := by have := NF.out; omega
              have rb : r ≤ 1000 := by have := NF.out; omega
              have eh : ((st : Int) + (r : Int)) / 2 = (c : Int) := by omega
              have ec : IntKind.i64.wrap ((pp : Int) - (c : Int)) = (pc : Int) := by rw [show (pp : Int) - c = (pc : Int) by omega]; exact IntWalk.i64_in _ (by omega)
              have pi : (pc : Int) < (n : Int) := by omega
              have ci : (c : Int) < (n : Int) := by omega
              have DL := OW.out.len
              have GP : (P ++ A ++ C ++ R).getD pc d0 = ((P ++ A ++ C ++ R).getD pc d0) := rfl
              have GQ : (P ++ A ++ C ++ R).getD c d0 = ((P ++ A ++ C ++ R).getD c d0) := rfl
              have KS : Hid (∀ w', Below wr.heap.size wr w' → ((w'.cell? ⟨g, pc * 3, none⟩ = some (.int .i64 ((P ++ A ++ C ++ R).getD pc d0).1) ∧ w'.cell? ⟨g, pc * 3 + 1, none⟩ = some (.int .i64 ((P ++ A ++ C ++ R).getD pc d0).2.1) ∧ w'.cell? ⟨g, pc * 3 + 2, none⟩ = some (.int .i64 ((P ++ A ++ C ++ R).getD pc d0).2.2)) ∧ w'.cell? ⟨g, c * 3, none⟩ = some (.int .i64 ((P ++ A ++ C ++ R).getD c d0).1) ∧ w'.cell? ⟨g, c * 3 + 1, none⟩ = some (.int .i64 ((P ++ A ++ C ++ R).getD c d0).2.1) ∧ w'.cell? ⟨g, c * 3 + 2, none⟩ = some (.int .i64 ((P ++ A ++ C ++ R).getD c d0).2.2))) := fun w' hb => by
                have := ((OW.out.below hb).two (p := pc) (q := c) hpn hcn).1
                rw [GP, GQ] at this
                exact this
              have BC : Hid (∀ w', Below wr.heap.size wr w' → Calls Try.prog 22 #[.agg #[.int .i64 ((P ++ A ++ C ++ R).getD pc d0).1, .int .i64 ((P ++ A ++ C ++ R).getD pc d0).2.1, .int .i64 ((P ++ A ++ C ++ R).getD pc d0).2.2], .agg #[.int .i64 ((P ++ A ++ C ++ R).getD c d0).1, .int .i64 ((P ++ A ++ C ++ R).getD c d0).2.1, .int .i64 ((P ++ A ++ C ++ R).getD c d0).2.2]] w' fun e w'' => e = .returned (.int .i64 (kN ((P ++ A ++ C ++ R).getD pc d0) - kN ((P ++ A ++ C ++ R).getD c d0))) ∧ Below wr.heap.size wr w'') := fun w' hb => (back1_any ((P ++ A ++ C ++ R).getD pc d0) ((P ++ A ++ C ++ R).getD c d0) w' (SM.out _ (getD_mem2 (by omega))) (SM.out _ (getD_mem2 (by omega)))).mono fun e w'' h => ⟨h.1, hb.trans (h.2.mono hb.size)⟩
              obtain ⟨⟨z0, z1, z2⟩, x0', x1', x2'⟩ := KS.out wr (Below.refl _ _)
              have N1 : Hid (¬ kN ((P ++ A ++ C ++ R).getD pc d0) < kN ((P ++ A ++ C ++ R).getD c d0) → ∀ wq, Below wr.heap.size wr wq → RelB3 w0 B base g cap n s0 r0 pp (P ++ A ++ C ++ R) (.int .i64 ((c : Int) + 1)) (.int .i64 (r : Int)) wq) := fun h wq hb => ⟨c + 1, r, by omega, by omega, hst3, rfl, rfl, .inr (by rw [Nat.add_sub_cancel, hpc]; exact h), L2.out, OW.out.below hb⟩
              have N2 : Hid (kN ((P ++ A ++ C ++ R).getD pc d0) < kN ((P ++ A ++ C ++ R).getD c d0) → ∀ wq, Below wr.heap.size wr wq → RelB3 w0 B base g cap n s0 r0 pp (P ++ A ++ C ++ R) (.int .i64 (st : Int)) (.int .i64 (c : Int)) wq) := fun h wq hb => ⟨st, c, hst1, hsc, by omega, rfl, rfl, L1.out, .inr (by rw [hpc]; exact h), OW.out.below hb⟩
              generalize (P ++ A ++ C ++ R).getD pc d0 = x0 at *
              generalize (P ++ A ++ C ++ R).getD c d0 = y0 at *
              clear GP GQ hc hpc OW L1 L2 DL
              by_cases hlt : kN x0 < kN y0
              · have hc :  kN x0 - kN y0 < 0 := by omega
                have NX := Lib.hid (N2.out hlt)
                clear N1 N2 hlt
                go_wp2_with fail
                go_region_held3 (fun w' => ((w'.cell? ⟨g, pc * 3, none⟩ = some (.int .i64 x0.1) ∧ w'.cell? ⟨g, pc * 3 + 1, none⟩ = some (.int .i64 x0.2.1) ∧ w'.cell? ⟨g, pc * 3 + 2, none⟩ = some (.int .i64 x0.2.2)) ∧ w'.cell? ⟨g, c * 3, none⟩ = some (.int .i64 y0.1) ∧ w'.cell? ⟨g, c * 3 + 1, none⟩ = some (.int .i64 y0.2.1) ∧ w'.cell? ⟨g, c * 3 + 2, none⟩ = some (.int .i64 y0.2.2)))
                  (first | exact ⟨⟨z0, z1, z2⟩, x0', x1', x2'⟩ | exact KS.out _ BX.out)
                  (first | (go_at_call 22; refine (BC.out _ (by repeat (first | exact Below.refl _ _ | refine Below.drew ?_))).mono ?_; rintro e w5 ⟨rfl, bel5⟩; have BX := Lib.hid bel5; clear bel5))
                all_goals
                  have G := Lib.hid (NX.out w5 BX.out)
                  clear z0 z1 z2 x0' x1' x2' KS BC NX
                  go_wp2_with fail
                  all_goals first
                    | exact ⟨by simpa using G.out, by simp [RowKit.intOf]; omega⟩
                    | (rename_i hx; exfalso; simp at hx; omega)
              · have hc : ¬ kN x0 - kN y0 < 0 := by omega
                have NX := Lib.hid (N1.out hlt)
                clear N1 N2 hlt
                go_wp2_with fail
                go_region_held3 (fun w' => ((w'.cell? ⟨g, pc * 3, none⟩ = some (.int .i64 x0.1) ∧ w'.cell? ⟨g, pc * 3 + 1, none⟩ = some (.int .i64 x0.2.1) ∧ w'.cell? ⟨g, pc * 3 + 2, none⟩ = some (.int .i64 x0.2.2)) ∧ w'.cell? ⟨g, c * 3, none⟩ = some (.int .i64 y0.1) ∧ w'.cell? ⟨g, c * 3 + 1, none⟩ = some (.int .i64 y0.2.1) ∧ w'.cell? ⟨g, c * 3 + 2, none⟩ = some (.int .i64 y0.2.2)))
                  (first | exact ⟨⟨z0, z1, z2⟩, x0', x1', x2'⟩ | exact KS.out _ BX.out)
                  (first | (go_at_call 22; refine (BC.out _ (by repeat (first | exact Below.refl _ _ | refine Below.drew ?_))).mono ?_; rintro e w5 ⟨rfl, bel5⟩; have BX := Lib.hid bel5; clear bel5))
                all_goals
                  have G := Lib.hid (NX.out w5 BX.out)
                  clear z0 z1 z2 x0' x1' x2' KS BC NX
                  go_wp2_with fail
                  all_goals first
                    | exact ⟨by simpa using G.out, by simp [RowKit.intOf]; omega⟩
                    | (rename_i hx; exfalso; simp at hx; omega)
            · obtain rfl : st = r := by omega
              obtain ⟨e, he⟩ : ∃ e, nn - st = e := ⟨_, rfl⟩
              have LEN : Hid (st ≤ m ∧ a ≤ st ∧ m ≤ e ∧ e ≤ b ∧ st ≤ mid ∧ A.length = m - a ∧ C.length = b - m ∧ e + st = nn ∧ mid ≤ e) := by
                rw [Hid]; have := NF.out; have := HA.out; have := HM.out; have := HBb.out; omega
              have CUT : (∀ u ∈ A.drop (st - a), ∀ v ∈ C.take (e - m), kN v < kN u) ∧ ∀ x ∈ A.take (st - a), ∀ y ∈ C.drop (e - m), kN x ≤ kN y := by
                have hLEN := LEN.out
                have hNF := NF.out
                have hdA : ∀ k, k < A.length → (P ++ A ++ C ++ R).getD (a + k) d0 = A.getD k d0 := fun k hk => by rw [List.append_assoc (P ++ A)]; exact at_l HA.out hk
                have hdC : ∀ k, k < C.length → (P ++ A ++ C ++ R).getD (m + k) d0 = C.getD k d0 := fun k hk => at_r HM.out hk
                refine sym_cut (d := d0) SA.out SC.out (by omega) (by omega) (fun h1 h2 => ?_) (fun h1 h2 => ?_)
                · have h3 := L1.out
                  rcases h3 with h3 | h3
                  · omega
                  · have f1 := hdA (st - a - 1) (by omega)
                    have f2 := hdC (e - m) h2
                    rw [show a + (st - a - 1) = st - 1 by omega] at f1
                    rw [show m + (e - m) = pp - (st - 1) by omega] at f2
                    rw [f1, f2] at h3
                    omega
                · have h3 := L2.out
                  rcases h3 with h3 | h3
                  · omega
                  · have f1 := hdA (st - a) (by omega)
                    have f2 := hdC (e - m - 1) (by omega)
                    rw [show a + (st - a) = st by omega] at f1
                    rw [show m + (e - m - 1) = pp - st by omega] at f2
                    rw [f1, f2] at h3
                    exact h3
              obtain ⟨X, hX⟩ : ∃ X, A.take (st - a) = X := ⟨_, rfl⟩
              obtain ⟨U, hU⟩ : ∃ U, A.drop (st - a) = U := ⟨_, rfl⟩
              obtain ⟨V, hV⟩ : ∃ V, C.take (e - m) = V := ⟨_, rfl⟩
              obtain ⟨Y, hY⟩ : ∃ Y, C.drop (e - m) = Y := ⟨_, rfl⟩
              have eA : A = X ++ U := by rw [← hX, ← hU, List.take_append_drop]
              have eC : C = V ++ Y := by rw [← hV, ← hY, List.take_append_drop]
              have lX : X.length = st - a := by rw [← hX, List.length_take]; have := LEN.out; omega
              have lU : U.length = m - st := by rw [← hU, List.length_drop]; have := LEN.out; omega
              have lV : V.length = e - m := by rw [← hV, List.length_take]; have := LEN.out; omega
              have lY : Y.length = b - e := by rw [← hY, List.length_drop]; have := LEN.out; omega
              rw [hX, hU, hV, hY] at CUT
              have sA := SA.out
              have sC := SC.out
              rw [eA] at sA
              rw [eC] at sC
              obtain ⟨sX, sU, _⟩ := SrtK.app.1 sA
              obtain ⟨sV, sY, _⟩ := SrtK.app.1 sC
              have SMX : Hid (∀ x, (x ∈ P ∨ x ∈ X ∨ x ∈ U ∨ x ∈ V ∨ x ∈ Y ∨ x ∈ R) → 0 ≤ x.2.2 ∧ x.2.2 ≤ 1000000) := fun x hx => SM.out x (by
                rw [eA, eC]
                simp only [List.mem_append]
                rcases hx with q | q | q | q | q | q <;> simp [q])
              have hLEN := LEN.out
              have hNF := NF.out
              have hN := HN.out
              have RO : Hid (0 < U.length → 0 < V.length → ∀ w', OD w0 B base g cap n (P ++ X ++ U ++ V ++ (Y ++ R)) w' → Calls Try.prog 128 #[.slice (some ⟨g, 0, none⟩) n cap, .int .i64 (st : Int), .int .i64 (m : Int), .int .i64 (e : Int), .func (.func 22) #[] #[]] w' fun e w'' => e = .returned (.tuple #[]) ∧ OD w0 B base g cap n (P ++ X ++ V ++ U ++ (Y ++ R)) w'') := fun h1 h2 w' ho =>
                rotC_any w0 B base g cap n st m e (P ++ X) U V (Y ++ R) _ w' hn (by rw [List.length_append, ← HA.out]; omega) (by rw [List.length_append, ← HA.out]; omega) (by rw [List.length_append, ← HA.out]; omega) h1 h2 ho
              have R1 : Hid (0 < X.length → 0 < V.length → ∀ w', OD w0 B base g cap n (P ++ X ++ V ++ U ++ (Y ++ R)) w' → Calls Try.prog 92 #[.slice (some ⟨g, 0, none⟩) n cap, .int .i64 (a : Int), .int .i64 (st : Int), .int .i64 (mid : Int), .func (.func 22) #[] #[]] w' fun e w'' => e = .returned (.tuple #[]) ∧ ∃ S, SrtK kN S ∧ Stb kN (X ++ V) S ∧ OD w0 B base g cap n (P ++ S ++ (U ++ (Y ++ R))) w'') := fun h1 h2 w' ho =>
                IH.out a st mid P X V (U ++ (Y ++ R)) w' (by omega) HA.out (by rw [← HA.out]; omega) (by rw [← HA.out]; omega) h1 h2 (fun x hx => SMX.out x (by
                  simp only [List.mem_append, or_assoc] at hx
                  rcases hx with q | q | q | q | q | q <;> simp [q])) sX sV (by simpa using ho)
              have R2 : Hid (∀ S1, Stb kN (X ++ V) S1 → 0 < U.length → 0 < Y.length → ∀ w', OD w0 B base g cap n (P ++ S1 ++ (U ++ (Y ++ R))) w' → Calls Try.prog 92 #[.slice (some ⟨g, 0, none⟩) n cap, .int .i64 (mid : Int), .int .i64 (e : Int), .int .i64 (b : Int), .func (.func 22) #[] #[]] w' fun e w'' => e = .returned (.tuple #[]) ∧ ∃ S, SrtK kN S ∧ Stb kN (U ++ Y) S ∧ OD w0 B base g cap n ((P ++ S1) ++ S ++ R) w'') := fun S1 hS1 h1 h2 w' ho => by
                have lS := hS1.length
                rw [List.length_append] at lS
                exact IH.out mid e b (P ++ S1) U Y R w' (by omega) (by rw [List.length_append, ← HA.out]; omega) (by rw [List.length_append, ← HA.out]; omega) (by rw [List.length_append, ← HA.out]; omega) h1 h2 (fun x hx => SMX.out x (by
                  simp only [List.mem_append, or_assoc] at hx
                  rcases hx with q | q | q | q | q
                  · simp [q]
                  · rcases List.mem_append.1 (hS1.mem.1 q) with q | q <;> simp [q]
                  all_goals simp [q])) sU sY (by simpa using ho)
              have NR : Hid (U.length = 0 ∨ V.length = 0 → ∀ w', OD w0 B base g cap n (P ++ X ++ U ++ V ++ (Y ++ R)) w' → OD w0 B base g cap n (P ++ X ++ V ++ U ++ (Y ++ R)) w') := fun h w' ho => by
                rcases h with h | h <;> (have h := List.eq_nil_of_length_eq_zero h; subst h; simpa using ho)
              have N1 : Hid (X.length = 0 ∨ V.length = 0 → SrtK kN (X ++ V)) := fun h => by
                rcases h with h | h <;> (have h := List.eq_nil_of_length_eq_zero h; subst h; simp; assumption)
              have N2 : Hid (U.length = 0 ∨ Y.length = 0 → SrtK kN (U ++ Y)) := fun h => by
                rcases h with h | h <;> (have h := List.eq_nil_of_length_eq_zero h; subst h; simp; assumption)
              have FIN : Hid (∀ S1 S2, SrtK kN S1 → Stb kN (X ++ V) S1 → SrtK kN S2 → Stb kN (U ++ Y) S2 → ∀ w', OD w0 B base g cap n ((P ++ S1) ++ S2 ++ R) w' → ∃ S, SrtK kN S ∧ Stb kN (A ++ C) S ∧ OD w0 B base g cap n (P ++ S ++ R) w') := fun S1 S2 h1 h2 h3 h4 w' ho => by
                have := sym_join sA sC CUT.1 CUT.2 h1 h3 h2 h4
                rw [← eA, ← eC] at this
                exact ⟨S1 ++ S2, this.1, this.2, by simpa using ho⟩
              have W0 : Hid (OD w0 B base g cap n (P ++ X ++ U ++ V ++ (Y ++ R)) wr) := by
                rw [Hid]
                have := OW.out
                rw [eA, eC] at this
                simpa using this
              have ee : IntKind.i64.wrap ((nn : Int) - (st : Int)) = (e : Int) := by rw [show (nn : Int) - st = (e : Int) by omega]; exact IntWalk.i64_in _ (by omega)
              have c1 : (0 < U.length ↔ (st : Int) < (m : Int)) ∧ (0 < V.length ↔ (m : Int) < (e : Int)) ∧ (0 < X.length ↔ (a : Int) < (st : Int)) ∧ (0 < V.length ↔ (st : Int) < (mid : Int)) ∧ (0 < U.length ↔ (mid : Int) < (e : Int)) ∧ (0 < Y.length ↔ (e : Int) < (b : Int)) ∧ (0 < X.length ∨ 0 < U.length) ∧ (0 < V.length ∨ 0 < Y.length) := by omega
              have CC := Lib.hid c1
              have sb : st ≤ 1000 := by omega
              have eb : e ≤ 1000 := by omega
              clear c1 hNF hLEN hN lX lU lV lY eA eC sA sC sX sU sV sY CUT hX hU hV hY OW L1 L2 he hsr
              rcases Nat.eq_zero_or_pos X.length with dX | dX <;> rcases Nat.eq_zero_or_pos U.length with dU | dU <;> rcases Nat.eq_zero_or_pos V.length with dV | dV <;> rcases Nat.eq_zero_or_pos Y.length with dY | dY
              · have := CC.out
                omega
              · have := CC.out
                omega
              · have := CC.out
                omega
              · have := CC.out
                omega
              · have := CC.out
                omega
              · have g1 : (st : Int) < (m : Int) := by have := CC.out; omega
                have g2 : ¬ (m : Int) < (e : Int) := by have := CC.out; omega
                have g3 : ¬ (a : Int) < (st : Int) := by have := CC.out; omega
                have g4 : ¬ (st : Int) < (mid : Int) := by have := CC.out; omega
                have g5 : (mid : Int) < (e : Int) := by have := CC.out; omega
                have g6 : (e : Int) < (b : Int) := by have := CC.out; omega
                have W1 := Lib.hid (NR.out (by omega) wr W0.out)
                have HS1 := Lib.hid (N1.out (by omega))
                have HB1 : Hid (Stb kN (X ++ V) (X ++ V)) := Stb.refl _
                have W2 : Hid (OD w0 B base g cap n (P ++ (X ++ V) ++ (U ++ (Y ++ R))) wr) := by rw [Hid]; have := W1.out; simpa using this
                go_wp2_with fail
                refine (R2.out (X ++ V) HB1.out dU dY wr W2.out).mono ?_
                rintro e' wc ⟨rfl, S2, hs2, hb2, ho⟩
                have F := Lib.hid (FIN.out _ _ HS1.out HB1.out hs2 hb2 wc ho)
                clear ho hs2 hb2
                go_wp2_with fail
                all_goals
                  go_end0
                  exact ⟨rfl, by simpa using F.out⟩
              · have g1 : (st : Int) < (m : Int) := by have := CC.out; omega
                have g2 : (m : Int) < (e : Int) := by have := CC.out; omega
                have g3 : ¬ (a : Int) < (st : Int) := by have := CC.out; omega
                have g4 : (st : Int) < (mid : Int) := by have := CC.out; omega
                have g5 : (mid : Int) < (e : Int) := by have := CC.out; omega
                have g6 : ¬ (e : Int) < (b : Int) := by have := CC.out; omega
                go_wp2_with fail
                refine (RO.out dU dV wr W0.out).mono ?_
                rintro e' wa ⟨rfl, ho⟩
                have W1 := Lib.hid ho
                clear ho
                have HS1 := Lib.hid (N1.out (by omega))
                have HB1 : Hid (Stb kN (X ++ V) (X ++ V)) := Stb.refl _
                have W2 : Hid (OD w0 B base g cap n (P ++ (X ++ V) ++ (U ++ (Y ++ R))) wa) := by rw [Hid]; have := W1.out; simpa using this
                have F := Lib.hid (FIN.out (X ++ V) (U ++ Y) HS1.out HB1.out (N2.out (by omega)) (Stb.refl _) wa (by have := W2.out; simpa using this))
                go_wp2_with fail
                all_goals
                  go_end0
                  exact ⟨rfl, by simpa using F.out⟩
              · have g1 : (st : Int) < (m : Int) := by have := CC.out; omega
                have g2 : (m : Int) < (e : Int) := by have := CC.out; omega
                have g3 : ¬ (a : Int) < (st : Int) := by have := CC.out; omega
                have g4 : (st : Int) < (mid : Int) := by have := CC.out; omega
                have g5 : (mid : Int) < (e : Int) := by have := CC.out; omega
                have g6 : (e : Int) < (b : Int) := by have := CC.out; omega
                go_wp2_with fail
                refine (RO.out dU dV wr W0.out).mono ?_
                rintro e' wa ⟨rfl, ho⟩
                have W1 := Lib.hid ho
                clear ho
                have HS1 := Lib.hid (N1.out (by omega))
                have HB1 : Hid (Stb kN (X ++ V) (X ++ V)) := Stb.refl _
                have W2 : Hid (OD w0 B base g cap n (P ++ (X ++ V) ++ (U ++ (Y ++ R))) wa) := by rw [Hid]; have := W1.out; simpa using this
                go_wp2_with fail
                refine (R2.out (X ++ V) HB1.out dU dY wa W2.out).mono ?_
                rintro e' wc ⟨rfl, S2, hs2, hb2, ho⟩
                have F := Lib.hid (FIN.out _ _ HS1.out HB1.out hs2 hb2 wc ho)
                clear ho hs2 hb2
                go_wp2_with fail
                all_goals
                  go_end0
                  exact ⟨rfl, by simpa using F.out⟩
              · have := CC.out
                omega
              · have g1 : ¬ (st : Int) < (m : Int) := by have := CC.out; omega
                have g2 : ¬ (m : Int) < (e : Int) := by have := CC.out; omega
                have g3 : (a : Int) < (st : Int) := by have := CC.out; omega
                have g4 : ¬ (st : Int) < (mid : Int) := by have := CC.out; omega
                have g5 : ¬ (mid : Int) < (e : Int) := by have := CC.out; omega
                have g6 : (e : Int) < (b : Int) := by have := CC.out; omega
                have W1 := Lib.hid (NR.out (by omega) wr W0.out)
                have HS1 := Lib.hid (N1.out (by omega))
                have HB1 : Hid (Stb kN (X ++ V) (X ++ V)) := Stb.refl _
                have W2 : Hid (OD w0 B base g cap n (P ++ (X ++ V) ++ (U ++ (Y ++ R))) wr) := by rw [Hid]; have := W1.out; simpa using this
                have F := Lib.hid (FIN.out (X ++ V) (U ++ Y) HS1.out HB1.out (N2.out (by omega)) (Stb.refl _) wr (by have := W2.out; simpa using this))
                go_wp2_with fail
                all_goals
                  go_end0
                  exact ⟨rfl, by simpa using F.out⟩
              · have g1 : ¬ (st : Int) < (m : Int) := by have := CC.out; omega
                have g2 : (m : Int) < (e : Int) := by have := CC.out; omega
                have g3 : (a : Int) < (st : Int) := by have := CC.out; omega
                have g4 : (st : Int) < (mid : Int) := by have := CC.out; omega
                have g5 : ¬ (mid : Int) < (e : Int) := by have := CC.out; omega
                have g6 : ¬ (e : Int) < (b : Int) := by have := CC.out; omega
                have W1 := Lib.hid (NR.out (by omega) wr W0.out)
                go_wp2_with fail
                refine (R1.out dX dV wr W1.out).mono ?_
                rintro e' wb ⟨rfl, S1, hs1, hb1, ho⟩
                have W2 := Lib.hid ho
                have HS1 := Lib.hid hs1
                have HB1 := Lib.hid hb1
                clear ho hs1 hb1
                have F := Lib.hid (FIN.out S1 (U ++ Y) HS1.out HB1.out (N2.out (by omega)) (Stb.refl _) wb (by have := W2.out; simpa using this))
                go_wp2_with fail
                all_goals
                  go_end0
                  exact ⟨rfl, by simpa using F.out⟩
              · have g1 : ¬ (st : Int) < (m : Int) := by have := CC.out; omega
                have g2 : (m : Int) < (e : Int) := by have := CC.out; omega
                have g3 : (a : Int) < (st : Int) := by have := CC.out; omega
                have g4 : (st : Int) < (mid : Int) := by have := CC.out; omega
                have g5 : ¬ (mid : Int) < (e : Int) := by have := CC.out; omega
                have g6 : (e : Int) < (b : Int) := by have := CC.out; omega
                have W1 := Lib.hid (NR.out (by omega) wr W0.out)
                go_wp2_with fail
                refine (R1.out dX dV wr W1.out).mono ?_
                rintro e' wb ⟨rfl, S1, hs1, hb1, ho⟩
                have W2 := Lib.hid ho
                have HS1 := Lib.hid hs1
                have HB1 := Lib.hid hb1
                clear ho hs1 hb1
                have F := Lib.hid (FIN.out S1 (U ++ Y) HS1.out HB1.out (N2.out (by omega)) (Stb.refl _) wb (by have := W2.out; simpa using this))
                go_wp2_with fail
                all_goals
                  go_end0
                  exact ⟨rfl, by simpa using F.out⟩
              · have := CC.out
                omega
              · have g1 : (st : Int) < (m : Int) := by have := CC.out; omega
                have g2 : ¬ (m : Int) < (e : Int) := by have := CC.out; omega
                have g3 : (a : Int) < (st : Int) := by have := CC.out; omega
                have g4 : ¬ (st : Int) < (mid : Int) := by have := CC.out; omega
                have g5 : (mid : Int) < (e : Int) := by have := CC.out; omega
                have g6 : (e : Int) < (b : Int) := by have := CC.out; omega
                have W1 := Lib.hid (NR.out (by omega) wr W0.out)
                have HS1 := Lib.hid (N1.out (by omega))
                have HB1 : Hid (Stb kN (X ++ V) (X ++ V)) := Stb.refl _
                have W2 : Hid (OD w0 B base g cap n (P ++ (X ++ V) ++ (U ++ (Y ++ R))) wr) := by rw [Hid]; have := W1.out; simpa using this
                go_wp2_with fail
                refine (R2.out (X ++ V) HB1.out dU dY wr W2.out).mono ?_
                rintro e' wc ⟨rfl, S2, hs2, hb2, ho⟩
                have F := Lib.hid (FIN.out _ _ HS1.out HB1.out hs2 hb2 wc ho)
                clear ho hs2 hb2
                go_wp2_with fail
                all_goals
                  go_end0
                  exact ⟨rfl, by simpa using F.out⟩
              · have g1 : (st : Int) < (m : Int) := by have := CC.out; omega
                have g2 : (m : Int) < (e : Int) := by have := CC.out; omega
                have g3 : (a : Int) < (st : Int) := by have := CC.out; omega
                have g4 : (st : Int) < (mid : Int) := by have := CC.out; omega
                have g5 : (mid : Int) < (e : Int) := by have := CC.out; omega
                have g6 : ¬ (e : Int) < (b : Int) := by have := CC.out; omega
                go_wp2_with fail
                refine (RO.out dU dV wr W0.out).mono ?_
                rintro e' wa ⟨rfl, ho⟩
                have W1 := Lib.hid ho
                clear ho
                go_wp2_with fail
                refine (R1.out dX dV wa W1.out).mono ?_
                rintro e' wb ⟨rfl, S1, hs1, hb1, ho⟩
                have W2 := Lib.hid ho
                have HS1 := Lib.hid hs1
                have HB1 := Lib.hid hb1
                clear ho hs1 hb1
                have F := Lib.hid (FIN.out S1 (U ++ Y) HS1.out HB1.out (N2.out (by omega)) (Stb.refl _) wb (by have := W2.out; simpa using this))
                go_wp2_with fail
                all_goals
                  go_end0
                  exact ⟨rfl, by simpa using F.out⟩
              · have g1 : (st : Int) < (m : Int) := by have := CC.out; omega
                have g2 : (m : Int) < (e : Int) := by have := CC.out; omega
                have g3 : (a : Int) < (st : Int) := by have := CC.out; omega
                have g4 : (st : Int) < (mid : Int) := by have := CC.out; omega
                have g5 : (mid : Int) < (e : Int) := by have := CC.out; omega
                have g6 : (e : Int) < (b : Int) := by have := CC.out; omega
                go_wp2_with fail
                refine (RO.out dU dV wr W0.out).mono ?_
                rintro e' wa ⟨rfl, ho⟩
                have W1 := Lib.hid ho
                clear ho
                go_wp2_with fail
                refine (R1.out dX dV wa W1.out).mono ?_
                rintro e' wb ⟨rfl, S1, hs1, hb1, ho⟩
                have W2 := Lib.hid ho
                have HS1 := Lib.hid hs1
                have HB1 := Lib.hid hb1
                clear ho hs1 hb1
                go_wp2_with fail
                refine (R2.out S1 HB1.out dU dY wb W2.out).mono ?_
                rintro e' wc ⟨rfl, S2, hs2, hb2, ho⟩
                have F := Lib.hid (FIN.out _ _ HS1.out HB1.out hs2 hb2 wc ho)
                clear ho hs2 hb2
                go_wp2_with fail
                all_goals
                  go_end0
                  exact ⟨rfl, by simpa using F.out⟩
end Go.Proofs.Ytljojgpjgjfddaa
