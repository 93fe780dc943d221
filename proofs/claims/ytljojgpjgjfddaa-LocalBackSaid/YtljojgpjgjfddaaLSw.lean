/- The contracts of slices.swapRangeCmpFunc and slices.rotateCmpFunc at dependencies. -/
import Derived.Test.YtljojgpjgjfddaaLSym
import Derived.Test.YtljojgpjgjfddaaLSplit
import Derived.IntWalk
namespace Go.Proofs.Ytljojgpjgjfddaa
open Go.RowKit Go.Maps
set_option linter.unusedVariables false
set_option linter.unusedSimpArgs false

/-- The slice (g, n, cap) is a row of dependencies that the call owns; what lay below B is as before. -/
structure OD (w0 : World) (B base g cap n : Nat) (D : List Dp) (w : World) : Prop where
  own : w.ownsRow base 49 3 (.slice (some ⟨g, 0, none⟩) n cap) n (D.flatMap cD)
  bel : Below B w0 w
  hB : B ≤ base
section
variable {w0 w w' : World} {B base g cap n : Nat} {D : List Dp}
theorem flatD_len (l : List Dp) : (l.flatMap cD).length = l.length * 3 := by
  induction l with
  | nil => rfl
  | cons x l ih => rw [List.flatMap_cons, List.length_append, ih, List.length_cons]; show 3 + _ = _; omega
theorem OD.len (h : OD w0 B base g cap n D w) : D.length = n := by
  have h1 := h.own.1
  rw [flatD_len] at h1
  omega
theorem OD.blk (h : OD w0 B base g cap n D w) : ∃ cur, Blk w g 49 cur ∧ cur.toList.take (n * 3) = D.flatMap cD ∧ n * 3 ≤ cur.size ∧ base ≤ g := by
  obtain ⟨h1, ⟨h2, _⟩ | ⟨g', cap', cur, h2, hb, hg, hn, hc, hs, ht⟩⟩ := h.own
  · injection h2 with h2; cases h2
  · injection h2 with h2 _ h3
    injection h2 with h2
    injection h2 with h2
    subst h2
    subst h3
    refine ⟨cur, hg, ht, ?_, hb⟩
    have := congrArg List.length ht
    rw [List.length_take, h1] at this
    simp at this
    omega
theorem flatD_at (l : List Dp) (i j : Nat) (hi : i < l.length) (hj : j < 3) : (l.flatMap cD)[i * 3 + j]? = (cD (l.getD i d0))[j]? := by
  induction l generalizing i with
  | nil => cases hi
  | cons x l ih =>
    rw [List.flatMap_cons]
    cases i with
    | zero =>
      rw [List.getElem?_append_left (by show 0 * 3 + j < 3; omega)]
      simp
    | succ i =>
      rw [List.getElem?_append_right (by show 3 ≤ _; omega), show (i + 1) * 3 + j - (cD x).length = i * 3 + j by show _ - 3 = _; omega, ih i (by simpa using hi)]
      simp [List.getD]
theorem OD.cell (h : OD w0 B base g cap n D w) {i : Nat} (hi : i < n) : (w.cell? ⟨g, i * 3, none⟩ = some (.int .i64 (D.getD i d0).1) ∧ w.cell? ⟨g, i * 3 + 1, none⟩ = some (.int .i64 (D.getD i d0).2.1) ∧ w.cell? ⟨g, i * 3 + 1 + 1, none⟩ = some (.int .i64 (D.getD i d0).2.2)) ∧ w.frozen? ⟨g, i * 3, none⟩ = false ∧ w.frozen? ⟨g, i * 3 + 1, none⟩ = false ∧ w.frozen? ⟨g, i * 3 + 1 + 1, none⟩ = false := by
  obtain ⟨cur, hb, ht, hc, _⟩ := h.blk
  have hl := h.len
  have e : ∀ j, j < 3 → w.cell? ⟨g, i * 3 + j, none⟩ = (cD (D.getD i d0))[j]? := fun j hj => by
    rw [hb.cell, ← Array.getElem?_toList, ← flatD_at D i j (by omega) hj, ← ht, List.getElem?_take, if_pos (by omega)]
  exact ⟨⟨e 0 (by omega), e 1 (by omega), e 2 (by omega)⟩, hb.frozen _, hb.frozen _, hb.frozen _⟩
theorem own_setS {xs : List Value} (h : w.ownsRow base 49 3 (.slice (some ⟨g, 0, none⟩) n cap) n xs) (i : Nat) (u : Value) : (w.setCell ⟨g, i, none⟩ u).ownsRow base 49 3 (.slice (some ⟨g, 0, none⟩) n cap) n (xs.set i u) := by
  obtain ⟨h1, ⟨h2, _⟩ | ⟨g', cap', cur, h2, hb, hg, hn, hc, hs, ht⟩⟩ := h
  · injection h2 with h2; cases h2
  · injection h2 with h2 _ h3
    injection h2 with h2
    injection h2 with h2
    subst h2
    subst h3
    refine ⟨by rw [List.length_set]; exact h1, .inr ⟨g, cap, cur.setIfInBounds i u, rfl, hb, (show Blk w g 49 cur from hg).set_ i u, hn, hc, by simpa using hs, ?_⟩⟩
    rw [Array.toList_setIfInBounds, List.take_set, ht]
theorem flatD_set (l : List Dp) (i : Nat) (x : Dp) (hi : i < l.length) : (((l.flatMap cD).set (i * 3) (.int .i64 x.1)).set (i * 3 + 1) (.int .i64 x.2.1)).set (i * 3 + 1 + 1) (.int .i64 x.2.2) = (l.set i x).flatMap cD := by
  induction l generalizing i with
  | nil => cases hi
  | cons y l ih =>
    cases i with
    | zero => simp [List.flatMap_cons, cD]
    | succ i =>
      have := ih i (by simpa using hi)
      rw [List.set_cons_succ, List.flatMap_cons, List.flatMap_cons, ← this]
      rw [show (i + 1) * 3 = (cD y).length + i * 3 by show _ = 3 + _; omega]
      simp only [Nat.add_assoc]
      rw [List.set_append_right _ _ (by omega), List.set_append_right _ _ (by omega), List.set_append_right _ _ (by omega)]
      simp
theorem OD.set (h : OD w0 B base g cap n D w) {i : Nat} (hi : i < n) (x : Dp) : OD w0 B base g cap n (D.set i x) (((w.setCell ⟨g, i * 3, none⟩ (.int .i64 x.1)).setCell ⟨g, i * 3 + 1, none⟩ (.int .i64 x.2.1)).setCell ⟨g, i * 3 + 1 + 1, none⟩ (.int .i64 x.2.2)) := by
  obtain ⟨_, _, _, _, hb⟩ := h.blk
  have hg : B ≤ g := Nat.le_trans h.hB hb
  refine ⟨?_, ((h.bel.setCell hg _).setCell hg _).setCell hg _, h.hB⟩
  have h1 := own_setS (own_setS (own_setS h.own (i * 3) (.int .i64 x.1)) (i * 3 + 1) (.int .i64 x.2.1)) (i * 3 + 1 + 1) (.int .i64 x.2.2)
  rw [flatD_set D i x (by rw [h.len]; exact hi)] at h1
  exact h1
theorem OD.set2 (h : OD w0 B base g cap n D w) {i : Nat} (hi : i < n) (xf xt xn : Int) : OD w0 B base g cap n (D.set i (xf, xt, xn)) (((w.setCell ⟨g, i * 3, none⟩ (.int .i64 xf)).setCell ⟨g, i * 3 + 1, none⟩ (.int .i64 xt)).setCell ⟨g, i * 3 + 2, none⟩ (.int .i64 xn)) := by
  have h1 := h.set hi (xf, xt, xn)
  rw [show i * 3 + 1 + 1 = i * 3 + 2 from rfl] at h1
  exact h1
theorem own_belowS {base e m n : Nat} {v : Value} {xs : List Value} (h : w.ownsRow base e m v n xs) (hb : Below w.heap.size w w') : w'.ownsRow base e m v n xs :=
  ⟨h.1, by
    rcases h.2 with ⟨e1, h2⟩ | ⟨g, cap, cur, e1, h1, h2, h3⟩
    · exact .inl ⟨e1, h2⟩
    · exact .inr ⟨g, cap, cur, e1, h1, by rw [hb.block g (Array.getElem?_eq_some_iff.1 h2).1]; exact h2, h3⟩⟩
theorem OD.below (h : OD w0 B base g cap n D w) (hb : Below w.heap.size w w') : OD w0 B base g cap n D w' := ⟨own_belowS h.own hb, h.bel.trans (hb.mono (by obtain ⟨cur, hk, _, _, hg⟩ := h.blk; have := hk.lt; have := h.hB; omega)), h.hB⟩
theorem OD.drew (h : OD w0 B base g cap n D w) : OD w0 B base g cap n D w.drew := ⟨h.own, h.bel.drew, h.hB⟩
theorem OD.drewN (h : OD w0 B base g cap n D w) (q : Nat) : OD w0 B base g cap n D (w.drewN q) := ⟨h.own, below_drewN h.bel q, h.hB⟩
end
def RelSw (w0 : World) (B base g cap n : Nat) (P U M V R : List Dp) (i : Value) (wr : World) : Prop :=
  ∃ k : Nat, k ≤ U.length ∧ i = .int .i64 k ∧ OD w0 B base g cap n (P ++ (V.take k ++ U.drop k) ++ M ++ (U.take k ++ V.drop k) ++ R) wr
theorem drop_cons {α : Type} (d : α) {l : List α} {k : Nat} (h : k < l.length) : l.drop k = l.getD k d :: l.drop (k + 1) := by
  rw [List.drop_eq_getElem_cons h]; simp [List.getD, h]
theorem sw_step {P U M V R : List Dp} {k : Nat} (hk : k < U.length) (hv : U.length = V.length) :
    (P ++ (V.take k ++ U.drop k) ++ M ++ (U.take k ++ V.drop k) ++ R) = (P ++ V.take k) ++ U.getD k d0 :: (U.drop (k + 1) ++ M ++ U.take k) ++ V.getD k d0 :: (V.drop (k + 1) ++ R) ∧
    (P ++ (V.take (k + 1) ++ U.drop (k + 1)) ++ M ++ (U.take (k + 1) ++ V.drop (k + 1)) ++ R) = (P ++ V.take k) ++ V.getD k d0 :: (U.drop (k + 1) ++ M ++ U.take k) ++ U.getD k d0 :: (V.drop (k + 1) ++ R) := by
  constructor
  · rw [drop_cons d0 hk, drop_cons d0 (l := V) (by omega)]; simp
  · rw [take_snocG d0 V k (by omega), take_snocG d0 U k hk]; simp
set_option maxRecDepth 100000 in
set_option maxHeartbeats 4000000 in
theorem swapR_any (w0 : World) (B base g cap n a b m : Nat) (P U M V R : List Dp) (cf : Value) (w : World) (hn : n ≤ 1000) (hm : m = U.length) (hv : U.length = V.length) (ha : a = P.length) (hb : b = P.length + U.length + M.length)
    (h : OD w0 B base g cap n (P ++ U ++ M ++ V ++ R) w) :
    Calls Try.prog 150 #[.slice (some ⟨g, 0, none⟩) n cap, .int .i64 (a : Int), .int .i64 (b : Int), .int .i64 (m : Int), cf] w fun e w' => e = .returned (.tuple #[]) ∧ OD w0 B base g cap n (P ++ V ++ M ++ U ++ R) w' := by
  have ST : Hid (RelSw w0 B base g cap n P U M V R (.int .i64 0) w) := ⟨0, Nat.zero_le _, rfl, by simpa using h⟩
  have hl := h.len
  simp only [List.length_append] at hl
  have HM := Lib.hid hm
  have HL := Lib.hid hl
  have HA := Lib.hid ha
  have HBb := Lib.hid hb
  have HV := Lib.hid hv
  have m1000 : m ≤ 1000 := by omega
  clear h hm hl ha hb hv
  go_enter Try.func150, Try.ntmps150
  go_wp2_with fail
  go_loopw [10] (fun i wr => RelSw w0 B base g cap n P U M V R i wr) (fun i _ => m - (RowKit.intOf i).toNat)
  case atStart => exact ST.out
  case round =>
    clear ST
    obtain ⟨k, hk, rfl, hod⟩ := hrel
    have OW := Lib.hid hod
    clear hod
    by_cases hkr : k < m
    · have hku : k < U.length := by have := HM.out; omega
      obtain ⟨s1, s2⟩ := sw_step (P := P) (M := M) (R := R) hku HV.out
      obtain ⟨p, hp⟩ : ∃ p, a + k = p := ⟨_, rfl⟩
      obtain ⟨q, hq⟩ : ∃ q, b + k = q := ⟨_, rfl⟩
      have hpq : p < q ∧ q < n := by have := HL.out; have := HA.out; have := HBb.out; have := HV.out; omega
      obtain ⟨pq, qn⟩ := hpq
      have NXT : Hid (∀ wq, OD w0 B base g cap n (((P ++ (V.take k ++ U.drop k) ++ M ++ (U.take k ++ V.drop k) ++ R).set p (V.getD k d0)).set q (U.getD k d0)) wq → RelSw w0 B base g cap n P U M V R (.int .i64 ((k + 1 : Nat) : Int)) wq) := fun wq ho => by
        refine ⟨k + 1, by omega, rfl, ?_⟩
        have e1 : p = (P ++ V.take k).length := by rw [List.length_append, List.length_take]; have := HA.out; have := HV.out; omega
        have e2 : q = (P ++ V.take k).length + 1 + (U.drop (k + 1) ++ M ++ U.take k).length := by
          simp only [List.length_append, List.length_take, List.length_drop]; have := HA.out; have := HBb.out; have := HV.out; omega
        rw [s1, e2, e1, swap_app, ← s2] at ho
        exact ho
      have GP : (P ++ (V.take k ++ U.drop k) ++ M ++ (U.take k ++ V.drop k) ++ R).getD p d0 = U.getD k d0 := by
        have e1 : p = (P ++ V.take k).length := by rw [List.length_append, List.length_take]; have := HA.out; have := HV.out; omega
        rw [s1, e1]; simp [List.getD]
      have GQ : (P ++ (V.take k ++ U.drop k) ++ M ++ (U.take k ++ V.drop k) ++ R).getD q d0 = V.getD k d0 := by
        have e2 : q = ((P ++ V.take k) ++ U.getD k d0 :: (U.drop (k + 1) ++ M ++ U.take k)).length := by
          simp only [List.length_append, List.length_take, List.length_drop, List.length_cons]; have := HA.out; have := HBb.out; have := HV.out; omega
        rw [s1, e2]; simp [List.getD]
      obtain ⟨⟨x0, x1, x2⟩, fx0, fx1, fx2⟩ := OW.out.cell (i := p) (by omega)
      obtain ⟨⟨y0, y1, y2⟩, fy0, fy1, fy2⟩ := OW.out.cell (i := q) qn
      rw [GP] at x0 x1 x2
      rw [GQ] at y0 y1 y2
      generalize U.getD k d0 = x at *
      generalize V.getD k d0 = y at *
      generalize P ++ (V.take k ++ U.drop k) ++ M ++ (U.take k ++ V.drop k) ++ R = D at *
      obtain ⟨xf, xt, xn⟩ := x
      obtain ⟨yf, yt, yn⟩ := y
      simp only at x0 x1 x2 y0 y1 y2
      have ki : (k : Int) < (m : Int) := by omega
      have ea : IntKind.i64.wrap ((a : Int) + (k : Int)) = (p : Int) := by rw [show (a : Int) + k = (p : Int) by omega]; exact IntWalk.i64_in _ (by omega)
      have eb : IntKind.i64.wrap ((b : Int) + (k : Int)) = (q : Int) := by rw [show (b : Int) + k = (q : Int) by omega]; exact IntWalk.i64_in _ (by omega)
      have pi : (p : Int) < (n : Int) := by omega
      have qi : (q : Int) < (n : Int) := by omega
      have npq : ¬ p = q := by omega
      have nqp : ¬ q = p := by omega
      have e1 : ((k + 1 : Nat) : Int) = (k : Int) + 1 := by omega
      rw [e1] at NXT
      clear s1 s2 hp hq GP GQ hku e1
      go_wp2_with fail
      go_region_law (fail)
      all_goals
        go_wp2_with fail
        refine ⟨?_, by simp [RowKit.intOf]; omega⟩
        first
          | exact NXT.out _ ((OW.out.set2 (i := p) (by omega) yf yt yn).set2 qn xf xt xn).drew
          | (refine NXT.out _ ?_
             rw [List.set_comm _ _ npq]
             exact ((OW.out.set2 qn xf xt xn).set2 (i := p) (by omega) yf yt yn).drew)
    · have hkm : k = U.length := by have := HM.out; omega
      have F : Hid (OD w0 B base g cap n (P ++ V ++ M ++ U ++ R) wr) := by
        have h1 := OW.out
        rw [hkm, List.take_length, List.drop_length, HV.out, List.take_length, List.drop_length, List.append_nil, List.append_nil] at h1
        exact h1
      have ki : ¬ (k : Int) < (m : Int) := by omega
      clear OW
      go_wp2_with fail
      go_end0
      exact ⟨rfl, by simpa using F.out⟩
end Go.Proofs.Ytljojgpjgjfddaa
