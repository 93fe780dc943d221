/- Tables of routes in memory; the contracts of routes.across, of routes.Valid and of the function inside it. -/
import Derived.Test.YtljojgpjgjfddaaGreatCOrder
namespace Go.Proofs.YtljojgpjgjfddaaGreat
open Go.RowKit Go.Maps
set_option linter.unusedVariables false

abbrev Row2 := List Int × List Int
def row0 : Row2 := ([], [])
def WfT (T : List Row2) : Prop := ∀ r ∈ T, WfI r.1 ∧ WfI r.2
def IsTab (w : World) (a : Option Addr) (len : Nat) (T : List Row2) : Prop :=
  T.length = len ∧ (0 < len → ∃ b off, a = some ⟨b, off, none⟩ ∧ b < w.heap.size ∧ ∀ i, i < len → ∃ a0 c0 a1 c1, w.cell? ⟨b, off + i * 2, none⟩ = some (.slice a0 (T.getD i row0).1.length c0) ∧ w.cell? ⟨b, off + i * 2 + 1, none⟩ = some (.slice a1 (T.getD i row0).2.length c1) ∧
    IsRec 1 cI 0 w a0 (T.getD i row0).1.length (T.getD i row0).1 ∧ IsRec 1 cI 0 w a1 (T.getD i row0).2.length (T.getD i row0).2)
theorem IsTab.below {w w' : World} {B len : Nat} {a : Option Addr} {T : List Row2} (h : IsTab w a len T) (hB : w.heap.size ≤ B) (hb : Below B w w') : IsTab w' a len T := by
  refine ⟨h.1, fun h0 => ?_⟩
  obtain ⟨b, off, e, hlt, hc⟩ := h.2 h0
  refine ⟨b, off, e, by have := hb.size; omega, fun i hi => ?_⟩
  obtain ⟨a0, c0, a1, c1, h1, h2, h3, h4⟩ := hc i hi
  exact ⟨a0, c0, a1, c1, (hb.cell (by show b < B; omega)).trans h1, (hb.cell (by show b < B; omega)).trans h2, h3.below hB hb, h4.below hB hb⟩
theorem IsTab.at_ {w : World} {a : Option Addr} {len : Nat} {T : List Row2} (h : IsTab w a len T) (k : Nat) (hk : k < len) :
    ∃ b off a0 c0 a1 c1, a = some ⟨b, off, none⟩ ∧ b < w.heap.size ∧ T.getD k row0 ∈ T ∧ w.cell? ⟨b, off + k * 2, none⟩ = some (.slice a0 (T.getD k row0).1.length c0) ∧ w.cell? ⟨b, off + k * 2 + 1, none⟩ = some (.slice a1 (T.getD k row0).2.length c1) ∧
    IsRec 1 cI 0 w a0 (T.getD k row0).1.length (T.getD k row0).1 ∧ IsRec 1 cI 0 w a1 (T.getD k row0).2.length (T.getD k row0).2 := by
  obtain ⟨b, off, e, hlt, hc⟩ := h.2 (by omega)
  obtain ⟨a0, c0, a1, c1, h1, h2, h3, h4⟩ := hc k hk
  have hl : k < T.length := by rw [h.1]; exact hk
  exact ⟨b, off, a0, c0, a1, c1, e, hlt, by simp [List.getD, hl], h1, h2, h3, h4⟩

def acrossV (x : Cb) (node : Int) : Int × Bool := if node = x.a then (x.b, true) else if node = x.b then (x.a, true) else (0, false)
set_option maxHeartbeats 1000000 in
theorem across_any (x : Cb) (node : Int) (w : World) :
    Calls Tryz.prog 35 #[.agg #[.int .i64 x.a, .int .i64 x.ap, .int .i64 x.b, .int .i64 x.bp, .int .i64 x.dl, .int .i64 x.cp], .int .i64 node] w fun e w' => e = .returned (.tuple #[.int .i64 (acrossV x node).1, .bool (acrossV x node).2]) ∧ Below w.heap.size w w' := by
  obtain ⟨xa, xap, xb, xbp, xd, xc⟩ := x
  simp only
  have B : Hid (Below w.heap.size w (w.alloc (.cells #[.int .i64 xa, .int .i64 xap, .int .i64 xb, .int .i64 xbp, .int .i64 xd, .int .i64 xc] 85))) := (Below.refl _ _).alloc (Nat.le_refl _) _
  cases h1 : node == xa with
  | true =>
    have F : Hid (acrossV ⟨xa, xap, xb, xbp, xd, xc⟩ node = (xb, true)) := by rw [Hid]; unfold acrossV; rw [if_pos (by simpa using h1)]
    go_enter Tryz.func35, Tryz.ntmps35
    go_wp2_with fail
    go_ret2
    exact ⟨by rw [F.out]; rfl, B.out⟩
  | false =>
    cases h2 : node == xb with
    | true =>
      have F : Hid (acrossV ⟨xa, xap, xb, xbp, xd, xc⟩ node = (xa, true)) := by rw [Hid]; unfold acrossV; rw [if_neg (by simpa using h1), if_pos (by simpa using h2)]
      go_enter Tryz.func35, Tryz.ntmps35
      go_wp2_with fail
      go_ret2
      exact ⟨by rw [F.out]; rfl, B.out⟩
    | false =>
      have F : Hid (acrossV ⟨xa, xap, xb, xbp, xd, xc⟩ node = (0, false)) := by rw [Hid]; unfold acrossV; rw [if_neg (by simpa using h1), if_neg (by simpa using h2)]
      go_enter Tryz.func35, Tryz.ntmps35
      go_wp2_with fail
      go_ret2
      exact ⟨by rw [F.out]; rfl, B.out⟩

def permB (cs : List Cb) (node to_ number : Int) : Bool :=
  if node == to_ || number == -2 then node == to_ && number == -2 else if number == -1 then true else if number < 0 ∨ (cs.length : Int) ≤ number then false else (acrossV (cs.getD number.toNat cb0) node).2
set_option maxHeartbeats 2000000 in
theorem perm_any (cs : List Cb) (Ac : Option Addr) (cc g : Nat) (node to_ number : Int) (w : World) (hl : cs.length ≤ 1000000) (hg : g < w.heap.size) (hc : w.cell? ⟨g, 1, none⟩ = some (.slice Ac cs.length cc)) (h : IsRec 6 cC cb0 w Ac cs.length cs) :
    Calls Tryz.prog 89 #[.int .i64 node, .int .i64 to_, .int .i64 number, .pointer (some ⟨g, 0, none⟩)] w fun e w' => e = .returned (.bool (permB cs node to_ number)) ∧ Below w.heap.size w w' := by
  have H := Lib.hid h
  clear h
  have hd : permB cs node to_ number = if node == to_ || number == -2 then node == to_ && number == -2 else if number == -1 then true else if number < 0 ∨ (cs.length : Int) ≤ number then false else (acrossV (cs.getD number.toNat cb0) node).2 := rfl
  have HD := Lib.hid hd
  clear hd
  cases h1 : node == to_ with
  | true =>
    cases h2 : number == -2 with
    | true =>
      have F : Hid (permB cs node to_ number = true) := by rw [Hid, HD.out, h1, h2]; rfl
      clear HD
      go_enter Tryz.func89, Tryz.ntmps89
      go_wp2_with fail
      go_ret
      exact ⟨by rw [F.out]; rfl, Below.refl _ _⟩
    | false =>
      have F : Hid (permB cs node to_ number = false) := by rw [Hid, HD.out, h1, h2]; rfl
      clear HD
      go_enter Tryz.func89, Tryz.ntmps89
      go_wp2_with fail
      go_ret
      exact ⟨by rw [F.out]; rfl, Below.refl _ _⟩
  | false =>
    cases h2 : number == -2 with
    | true =>
      have F : Hid (permB cs node to_ number = false) := by rw [Hid, HD.out, h1, h2]; rfl
      clear HD
      go_enter Tryz.func89, Tryz.ntmps89
      go_wp2_with fail
      go_ret
      exact ⟨by rw [F.out]; rfl, Below.refl _ _⟩
    | false =>
      cases h3 : number == -1 with
      | true =>
        have F : Hid (permB cs node to_ number = true) := by rw [Hid, HD.out, h1, h2, h3]; rfl
        clear HD
        go_enter Tryz.func89, Tryz.ntmps89
        go_wp2_with fail
        go_ret
        exact ⟨by rw [F.out]; rfl, Below.refl _ _⟩
      | false =>
        by_cases h4 : number < 0 ∨ (cs.length : Int) ≤ number
        · have F : Hid (permB cs node to_ number = false) := by rw [Hid, HD.out, h1, h2, h3, if_pos h4]; rfl
          have h4' : number < 0 ∨ (0 ≤ number ∧ (cs.length : Int) ≤ number) := by omega
          clear HD h4
          rcases h4' with h5 | ⟨h5, h6⟩
          all_goals
            go_enter Tryz.func89, Tryz.ntmps89
            go_wp2_with fail
            go_ret
            exact ⟨by rw [F.out]; rfl, Below.refl _ _⟩
        · have F : Hid (permB cs node to_ number = (acrossV (cs.getD number.toNat cb0) node).2) := by rw [Hid, HD.out, h1, h2, h3, if_neg h4]; rfl
          obtain ⟨q, rfl⟩ : ∃ q : Nat, number = q := ⟨number.toNat, by omega⟩
          have hq : q < cs.length := by omega
          have q1 : (q : Int) < (cs.length : Int) := by omega
          obtain ⟨bb, off, ha, hbb, hmem, c0, c1, c2, c3, c4, c5⟩ := cable_at H.out q hq
          rw [Int.toNat_natCast] at F
          generalize cs.getD q cb0 = x at *
          subst ha
          clear hmem HD h4
          go_enter Tryz.func89, Tryz.ntmps89
          go_wp2_with fail
          refine (across_any x node _).mono ?_
          rintro e w' ⟨rfl, bel⟩
          have BE := Lib.hid bel
          clear bel
          go_wp2_with fail
          go_ret
          exact ⟨by rw [F.out]; rfl, BE.out⟩

def rowOk (cs : List Cb) (n node : Nat) (l : List Int) : Bool := decide (l.length = n) && (List.range l.length).all fun t => permB cs node t (l.getD t 0)
def phOf (x : Row2) (j : Nat) : List Int := if j = 0 then x.1 else x.2
def tabOk (cs : List Cb) (n : Nat) (T : List Row2) (u : Nat) : Bool := rowOk cs n u (phOf (T.getD u row0) 0) && rowOk cs n u (phOf (T.getD u row0) 1)
def tableB (p : Pl) (T : List Row2) : Bool := decide (validP p = 0) && decide (T.length = p.ns.length) && (List.range T.length).all (tabOk p.cs p.ns.length T)
section
variable {p : Pl} {T : List Row2}
theorem tb1 (h : validP p ≠ 0) : tableB p T = false := by unfold tableB; rw [decide_eq_false h]; rfl
theorem tb2 (h : T.length ≠ p.ns.length) : tableB p T = false := by unfold tableB; rw [decide_eq_false h]; simp
theorem tb3 {u : Nat} (hu : u < T.length) (h : tabOk p.cs p.ns.length T u = false) : tableB p T = false := by
  unfold tableB
  have : (List.range T.length).all (tabOk p.cs p.ns.length T) = false := by rw [List.all_eq_false]; exact ⟨u, List.mem_range.2 hu, by rw [h]; simp⟩
  rw [this]; simp
theorem tb0 (h1 : validP p = 0) (h2 : T.length = p.ns.length) (h3 : (List.range T.length).all (tabOk p.cs p.ns.length T) = true) : tableB p T = true := by
  unfold tableB; rw [decide_eq_true h1, decide_eq_true h2, h3]; rfl
end
def RelT1 (cs : List Cb) (n : Nat) (T : List Row2) (w2 : World) (i : Value) (wr : World) : Prop :=
  ∃ k : Nat, k ≤ T.length ∧ i = .int .i64 k ∧ (List.range k).all (tabOk cs n T) = true ∧ Below w2.heap.size w2 wr
def RelT2 (cs : List Cb) (n : Nat) (x : Row2) (u : Nat) (w3 : World) (i : Value) (wr : World) : Prop :=
  ∃ j : Nat, j ≤ 2 ∧ i = .int .i64 j ∧ (∀ q, q < j → rowOk cs n u (phOf x q) = true) ∧ Below w3.heap.size w3 wr
def RelT3 (cs : List Cb) (l : List Int) (u : Nat) (w4 : World) (i : Value) (wr : World) : Prop :=
  ∃ t : Nat, t ≤ l.length ∧ i = .int .i64 t ∧ ((List.range t).all fun t => permB cs u t (l.getD t 0)) = true ∧ Below w4.heap.size w4 wr
theorem ix2 (a b : Value) (w : World) : (Instr.index 91 (.agg #[a, b]) (.int .i64 0)).run Tryz.prog w = .ok a w ∧ (Instr.index 91 (.agg #[a, b]) (.int .i64 1)).run Tryz.prog w = .ok b w := ⟨by kernel_rfl, by kernel_rfl⟩

set_option maxRecDepth 100000 in
set_option maxHeartbeats 4000000 in
theorem table_any (p : Pl) (T : List Row2) (An Ac At : Option Addr) (cn cc ct : Nat) (w : World) (hl : p.ns.length ≤ 1000000) (hl2 : p.cs.length ≤ 1000000) (hwf : WfP p) (hT : T.length ≤ 1000000) (h : IsPlan w An Ac p) (h2 : IsTab w At T.length T) :
    Calls Tryz.prog 37 #[.agg #[.slice An p.ns.length cn, .slice Ac p.cs.length cc], .agg #[.slice At T.length ct]] w fun e w' => e = .returned (.bool (tableB p T)) ∧ Below w.heap.size w w' := by
  obtain ⟨ns, cs⟩ := p
  simp only at hl hl2 ⊢
  have HW := Lib.hid hwf
  obtain ⟨w1, hw1⟩ : ∃ w1 : World, (w.alloc (.cells #[.slice An ns.length cn, .slice Ac cs.length cc] 25)).alloc (.cells #[.slice At T.length ct] 36) = w1 := ⟨_, rfl⟩
  have s0 : w1.cell? ⟨w.heap.size, 0, none⟩ = some (.slice An ns.length cn) := by rw [← hw1]; simp [go_sem]
  have s1 : w1.cell? ⟨w.heap.size, 1, none⟩ = some (.slice Ac cs.length cc) := by rw [← hw1]; simp [go_sem]
  have s2 : w1.cell? ⟨w.heap.size + 1, 0, none⟩ = some (.slice At T.length ct) := by rw [← hw1]; simp [go_sem]
  have sz1 : w.heap.size + 1 < w1.heap.size := by rw [← hw1]; simp
  have BW0 : Below w.heap.size w w1 := by rw [← hw1]; exact ((Below.refl _ _).alloc (Nat.le_refl _) _).alloc (by simp) _
  have H1 := Lib.hid (h.below (Nat.le_refl _) BW0)
  have T1 := Lib.hid (h2.below (Nat.le_refl _) BW0)
  have HW1 := Lib.hid hw1
  have KC : Hid (∀ w', Below w1.heap.size w1 w' → w'.cell? ⟨w.heap.size, 0, none⟩ = some (.slice An ns.length cn) ∧ w'.cell? ⟨w.heap.size, 1, none⟩ = some (.slice Ac cs.length cc) ∧ w'.cell? ⟨w.heap.size + 1, 0, none⟩ = some (.slice At T.length ct) ∧ w.heap.size + 1 < w'.heap.size ∧ Below w.heap.size w w') :=
    fun w' hb => ⟨(hb.cell (by show w.heap.size < _; omega)).trans s0, (hb.cell (by show w.heap.size < _; omega)).trans s1, (hb.cell (by exact sz1)).trans s2, by have := hb.size; omega, BW0.trans (hb.mono (by omega))⟩
  clear h h2 hw1 hwf BW0
  by_cases hv : validP ⟨ns, cs⟩ = 0
  · have HV := Lib.hid hv
    obtain ⟨n16, c32⟩ := valid_sizes hv
    clear hv
    go_enter Tryz.func37, Tryz.ntmps37
    go_wp2_with fail
    rw [HW1.out]
    refine (gvalid_any ⟨ns, cs⟩ An Ac cn cc _ hl hl2 HW.out H1.out).mono ?_
    rintro e w2 ⟨rfl, bel2⟩
    rw [HV.out]
    have B2 := Lib.hid bel2
    clear s0 s1 s2
    obtain ⟨u0, u1, u2, sz2, bw2⟩ := KC.out w2 bel2
    have BF2 := Lib.hid bw2
    clear bel2 bw2
    by_cases hll : T.length = ns.length
    · have q1 : ((T.length : Int) != (ns.length : Int)) = false := by simp [hll]
      have HLL := Lib.hid hll
      have T2 := Lib.hid (T1.out.below (Nat.le_refl _) B2.out)
      have C2 := Lib.hid ((H1.out.below (Nat.le_refl _) B2.out).2)
      have hn16 : T.length ≤ 16 := by omega
      clear hll
      go_wp2_with fail
      clear q1
      go_loopw [28] (fun i wr => RelT1 cs ns.length T w2 i wr) (fun i _ => T.length - (RowKit.intOf i).toNat)
      case atStart => exact ⟨0, Nat.zero_le _, rfl, rfl, Below.refl _ _⟩
      case round =>
        clear u0 u1 u2
        obtain ⟨u, hu, rfl, hall, bel⟩ := hrel
        have HA := Lib.hid hall
        have bs := bel.size
        have B3 := Lib.hid (B2.out.trans (bel.mono B2.out.size))
        clear hall
        by_cases hur : u < T.length
        · obtain ⟨bb, off, a0, c0, a1, c1, ha, hbb, hmem, e0, e1, r0, r1⟩ := (T2.out.below (Nat.le_refl _) bel).at_ u hur
          have AS : Hid ((List.range (u + 1)).all (tabOk cs ns.length T) = ((List.range u).all (tabOk cs ns.length T) && tabOk cs ns.length T u)) := by rw [Hid, List.range_succ, List.all_append]; simp
          have TO : Hid (tabOk cs ns.length T u = (rowOk cs ns.length u (phOf (T.getD u row0) 0) && rowOk cs ns.length u (phOf (T.getD u row0) 1))) := rfl
          have TB : Hid (tabOk cs ns.length T u = false → tableB ⟨ns, cs⟩ T = false) := fun h => tb3 (p := ⟨ns, cs⟩) hur h
          generalize T.getD u row0 = x at *
          obtain ⟨l0, l1⟩ := x
          simp only at e0 e1 r0 r1
          subst ha
          clear hmem
          obtain ⟨wa, hwa⟩ : ∃ wa : World, wr.alloc (.cells #[.slice a0 l0.length c0, .slice a1 l1.length c1] 91) = wa := ⟨_, rfl⟩
          have belA : Below wr.heap.size wr wa := hwa ▸ (Below.refl _ _).alloc (Nat.le_refl _) _
          have BA := Lib.hid (bel.trans (belA.mono bs))
          have RA0 := Lib.hid (r0.below (Nat.le_refl _) belA)
          have RA1 := Lib.hid (r1.below (Nat.le_refl _) belA)
          have HWA := Lib.hid hwa
          have CA := Lib.hid (C2.out.below (Nat.le_refl _) BA.out)
          clear hwa belA bel r0 r1
          go_wp2_with fail
          rw [HWA.out]
          clear HWA e0 e1
          have RT : Hid (∀ w', Below wa.heap.size wa w' → tabOk cs ns.length T u = true → RelT1 cs ns.length T w2 (.int .i64 ((u + 1 : Nat) : Int)) w') := fun w' hb ht => ⟨u + 1, by omega, rfl, by rw [AS.out, HA.out, ht]; rfl, BA.out.trans (hb.mono BA.out.size)⟩
          clear AS HA
          go_loopw [34] (fun i wr => RelT2 cs ns.length (l0, l1) u wa i wr) (fun i _ => 2 - (RowKit.intOf i).toNat)
          case atStart => exact ⟨0, by omega, rfl, fun q hq => absurd hq (by omega), Below.refl _ _⟩
          case round =>
            obtain ⟨j, hj, rfl, hrow, bel⟩ := hrel
            have HR := Lib.hid hrow
            have bs4 := bel.size
            have BJ := Lib.hid bel
            have B4 := Lib.hid (B2.out.trans ((BA.out.trans (bel.mono BA.out.size)).mono B2.out.size))
            obtain ⟨u0, u1, u2, sz4, bw4⟩ := KC.out wr B4.out
            have BF4 := Lib.hid bw4
            clear bw4 hrow bel
            by_cases hjr : j < 2
            · obtain ⟨l, al, cal, hix, hrec, hl⟩ : ∃ (l : List Int) (al : Option Addr) (cal : Nat), (∀ w', (Instr.index 91 (.agg #[.slice a0 l0.length c0, .slice a1 l1.length c1]) (.int .i64 (j : Int))).run Tryz.prog w' = .ok (.slice al l.length cal) w') ∧ IsRec 1 cI 0 wr al l.length l ∧ l = phOf (l0, l1) j := by
                rcases (show j = 0 ∨ j = 1 by omega) with rfl | rfl
                · exact ⟨l0, a0, c0, fun w' => (ix2 _ _ w').1, RA0.out.below (Nat.le_refl _) BJ.out, rfl⟩
                · exact ⟨l1, a1, c1, fun w' => (ix2 _ _ w').2, RA1.out.below (Nat.le_refl _) BJ.out, rfl⟩
              have jz : (j : Int) < 2 := by omega
              have HREC := Lib.hid hrec
              have RO : Hid (rowOk cs ns.length u l = true → RelT2 cs ns.length (l0, l1) u wa (.int .i64 ((j + 1 : Nat) : Int)) wr) := fun h => ⟨j + 1, by omega, rfl, fun q hq => by
                rcases (show q < j ∨ q = j by omega) with h1 | rfl
                · exact HR.out q h1
                · rw [← hl]; exact h, BJ.out⟩
              have RO' : Hid (∀ w', Below wr.heap.size wr w' → rowOk cs ns.length u l = true → RelT2 cs ns.length (l0, l1) u wa (.int .i64 ((j + 1 : Nat) : Int)) w') := fun w' hb h => by
                obtain ⟨j', h1, h2, h3, h4⟩ := RO.out h
                exact ⟨j', h1, h2, h3, h4.trans (hb.mono h4.size)⟩
              have RF : Hid (rowOk cs ns.length u l = false → tableB ⟨ns, cs⟩ T = false) := fun h => TB.out (by
                rw [TO.out]
                rcases (show j = 0 ∨ j = 1 by omega) with rfl | rfl
                · rw [← hl, h]; rfl
                · rw [← hl, h]; simp)
              have RW : Hid (rowOk cs ns.length u l = (decide (l.length = ns.length) && (List.range l.length).all fun t => permB cs u t (l.getD t 0))) := rfl
              clear hrec hl RO
              by_cases hlen : l.length = ns.length
              · have q2 : ((l.length : Int) != (ns.length : Int)) = false := by simp [hlen]
                have HLE := Lib.hid hlen
                have hl16 : l.length ≤ 16 := by omega
                clear hlen
                go_wp2_with fail
                clear q2
                obtain ⟨w5, rfl⟩ : ∃ w5 : World, w5 = wr := ⟨_, rfl⟩
                go_loopw [45] (fun i wr => RelT3 cs l u w5 i wr) (fun i _ => l.length - (RowKit.intOf i).toNat)
                case atStart => exact ⟨0, Nat.zero_le _, rfl, rfl, Below.refl _ _⟩
                case round =>
                  clear u0 u1 u2
                  obtain ⟨t, ht, rfl, hpa, bel⟩ := hrel
                  have HP := Lib.hid hpa
                  have bs5 := bel.size
                  obtain ⟨u0, u1, u2, sz5, bw5⟩ := KC.out wr (B4.out.trans (bel.mono B4.out.size))
                  have BF5 := Lib.hid bw5
                  clear bw5 hpa
                  by_cases htr : t < l.length
                  · obtain ⟨b1, o1, ha1, hb1, hm1, e1⟩ := int_at (HREC.out.below (Nat.le_refl _) bel) t htr
                    have PS : Hid (((List.range (t + 1)).all fun t => permB cs u t (l.getD t 0)) = (((List.range t).all fun t => permB cs u t (l.getD t 0)) && permB cs u t (l.getD t 0))) := by rw [Hid, List.range_succ, List.all_append]; simp
                    have PF : Hid (permB cs u t (l.getD t 0) = false → rowOk cs ns.length u l = false) := fun h => by
                      rw [RW.out]
                      have : ((List.range l.length).all fun t => permB cs u t (l.getD t 0)) = false := by rw [List.all_eq_false]; exact ⟨t, List.mem_range.2 htr, by rw [h]; simp⟩
                      rw [this]; simp
                    have hcon := Lib.hid (perm_any cs Ac cc w.heap.size u t (l.getD t 0) wr hl2 (by omega) u1 ((CA.out.below (Nat.le_refl _) BJ.out).below (Nat.le_refl _) bel))
                    generalize l.getD t 0 = y at *
                    subst ha1
                    have BE := Lib.hid bel
                    clear hm1 bel
                    go_wp2_with fail
                    refine hcon.out.mono ?_
                    rintro e w6 ⟨rfl, bel6⟩
                    have B6 := Lib.hid (BE.out.trans (bel6.mono BE.out.size))
                    have BF6 : Hid (Below w.heap.size w w6) := BF5.out.trans (bel6.mono (by omega))
                    clear bel6
                    cases hb : permB cs u t y with
                    | true =>
                      have R : Hid (RelT3 cs l u w5 (.int .i64 ((t + 1 : Nat) : Int)) w6) := ⟨t + 1, by omega, rfl, by rw [PS.out, HP.out, hb]; rfl, B6.out⟩
                      clear PS PF hb
                      go_wp2_with fail
                      exact ⟨by simpa using R.out, by simp [RowKit.intOf]; omega⟩
                    | false =>
                      have FIN := Lib.hid (RF.out (PF.out hb))
                      clear PS PF hb
                      go_wp2_with fail
                      go_ret
                      exact ⟨by rw [FIN.out]; rfl, BF6.out⟩
                  · obtain rfl : t = l.length := by omega
                    have R := Lib.hid (RO'.out wr bel (by rw [RW.out, decide_eq_true HLE.out, HP.out]; rfl))
                    clear bel
                    go_wp2_with fail
                    exact ⟨by simpa using R.out, by simp [RowKit.intOf]; omega⟩
              · have q2 : ((l.length : Int) != (ns.length : Int)) = true := by simp; omega
                have FIN : Hid (tableB ⟨ns, cs⟩ T = false) := RF.out (by rw [RW.out, decide_eq_false hlen]; rfl)
                clear hlen
                go_wp2_with fail
                go_ret
                exact ⟨by rw [FIN.out]; rfl, BF4.out⟩
            · obtain rfl : j = 2 := by omega
              have R := Lib.hid (RT.out wr BJ.out (by rw [TO.out, HR.out 0 (by omega), HR.out 1 (by omega)]; rfl))
              go_wp2_with fail
              exact ⟨by simpa using R.out, by simp [RowKit.intOf]; omega⟩
        · obtain rfl : u = T.length := by omega
          have FIN := Lib.hid (tb0 (p := ⟨ns, cs⟩) HV.out HLL.out HA.out)
          have BF : Hid (Below w.heap.size w wr) := BF2.out.trans (bel.mono (by omega))
          clear bel
          go_wp2_with fail
          go_ret
          exact ⟨by rw [FIN.out]; rfl, BF.out⟩
    · have q1 : ((T.length : Int) != (ns.length : Int)) = true := by simp; omega
      have FIN := Lib.hid (tb2 (p := ⟨ns, cs⟩) (T := T) hll)
      clear hll
      go_wp2_with fail
      go_ret
      exact ⟨by rw [FIN.out]; rfl, BF2.out⟩
  · have FIN := Lib.hid (tb1 (T := T) hv)
    have q1 : (validP ⟨ns, cs⟩ != 0) = true := by simpa using hv
    go_enter Tryz.func37, Tryz.ntmps37
    go_wp2_with fail
    rw [HW1.out]
    refine (gvalid_any ⟨ns, cs⟩ An Ac cn cc _ hl hl2 HW.out H1.out).mono ?_
    rintro e w2 ⟨rfl, bel2⟩
    obtain ⟨u0, u1, u2, sz2, bw2⟩ := KC.out w2 bel2
    have BF2 := Lib.hid bw2
    generalize validP ⟨ns, cs⟩ = vv at *
    clear bel2 bw2 s0 s1 s2 hv
    go_wp2_with fail
    go_ret
    exact ⟨by rw [FIN.out]; rfl, BF2.out⟩
end Go.Proofs.YtljojgpjgjfddaaGreat
