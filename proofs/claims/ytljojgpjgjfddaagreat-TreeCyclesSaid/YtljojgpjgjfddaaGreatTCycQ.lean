/- Several texts in one: TCycP, TCycQ. -/
import Derived.Test.YtljojgpjgjfddaaGreatTOneP
import Derived.Test.YtljojgpjgjfddaaGreatTDep
import Derived.Test.YtljojgpjgjfddaaGreatNB
import Derived.Test.YtljojgpjgjfddaaGreatCAcyP

/- The dependencies of a made tree turn as they may (the plain law for TreeCycles): what NB's TurnOk asks, in words of this text. No program in sight. -/
namespace Go.Proofs.YtljojgpjgjfddaaGreat
open Go.RowKit Go.Maps
set_option linter.unusedVariables false
set_option linter.unusedSimpArgs false

theorem above_iffC {lv : List Int} {a b : Nat} : aboveB lv (a : Int) (b : Int) = true ↔ a < lv.length ∧ b < lv.length ∧ 0 ≤ lv.getD a 0 ∧ 0 ≤ lv.getD b 0 ∧ (lv.getD a 0 < lv.getD b 0 ∨ (lv.getD a 0 = lv.getD b 0 ∧ a < b)) := by
  unfold aboveB hasB lvAt
  simp only [Int.toNat_natCast, Bool.and_eq_true, decide_eq_true_eq]
  have h : orL [cmpZ (lv.getD a 0) (lv.getD b 0), cmpZ (a : Int) (b : Int)] < 0 ↔ (lv.getD a 0 < lv.getD b 0 ∨ (lv.getD a 0 = lv.getD b 0 ∧ a < b)) := by
    generalize lv.getD a 0 = x
    generalize lv.getD b 0 = y
    unfold orL cmpZ
    by_cases h1 : x < y
    · simp [h1]
    · by_cases h2 : y < x
      · rw [if_neg h1, if_pos h2]; simp; omega
      · rw [if_neg h1, if_neg h2]
        simp only [ne_eq, not_true_eq_false, if_false]
        unfold orL orL
        by_cases h3 : (a : Int) < b
        · rw [if_pos h3]; simp; omega
        · rw [if_neg h3]
          by_cases h4 : (b : Int) < a
          · rw [if_pos h4]; simp; omega
          · rw [if_neg h4]; simp; omega
  rw [h]
  constructor
  · rintro ⟨⟨⟨⟨h1, h2⟩, h3⟩, ⟨h4, h5⟩, h6⟩, h7⟩
    exact ⟨by omega, by omega, h3, h6, h7⟩
  · rintro ⟨h1, h2, h3, h4, h5⟩
    exact ⟨⟨⟨⟨by omega, by omega⟩, h3⟩, ⟨by omega, by omega⟩, h4⟩, h5⟩
section
variable {ns : List Nd} {cs : List Cb} {lv ms : List Int} {s : Nat}
theorem MOk.turn_raw (h : MOk ns cs lv ms s) {d : Dp} (hd : d ∈ depT23 ns.length cs (mkT ns cs lv ms s)) :
    ∃ u v x i i2 : Nat, u < ns.length ∧ v < ns.length ∧ x < ns.length ∧ i < cs.length ∧ i2 < cs.length ∧ 0 ≤ d.1 ∧ d.1 < 2 * cs.length ∧ 0 ≤ d.2.1 ∧ d.2.1 < 2 * cs.length ∧ chEnds cs d.1 = ((u : Int), (v : Int)) ∧ chEnds cs d.2.1 = ((v : Int), (x : Int)) ∧ d.2.2 = (v : Int) ∧
      d.1 / 2 = (i : Int) ∧ d.2.1 / 2 = (i2 : Int) ∧ touchT (cs.getD i cb0) u v ∧ touchT (cs.getD i2 cb0) v x ∧ 0 ≤ lv.getD u 0 ∧ 0 ≤ lv.getD v 0 ∧ 0 ≤ lv.getD x 0 ∧ (aboveB lv (x : Int) (v : Int) = true → aboveB lv (v : Int) (u : Int) = true) ∧ i ≠ i2 := by
  obtain ⟨s', r, V⟩ := valid_tree h.mk_ways
  have V' := V
  obtain ⟨u, y, k, k', hu, hy, hus, hk, hk', h32, h32', rfl, m1, m2, t1, n1, t2, n2, _⟩ := V.mem_dep hd
  have e1 : (k : Int) ∈ (rowsM ns cs lv ms s).getD y [] := m1
  have e2 : (k' : Int) ∈ (rowsM ns cs lv ms s).getD u [] := m2
  obtain ⟨a1, a2, a3⟩ := leav_endsT h32 t1 n1
  obtain ⟨b1, b2, b3⟩ := leav_endsT h32' t2 n2
  have hx : othN cs u k' < ns.length := by have := (h.intree.go u _ e2).2.1; rwa [Int.toNat_natCast] at this
  have o1 : othN cs y k = u := oth_of t1
  obtain ⟨_, _, ly, c1⟩ := h.edge e1
  obtain ⟨_, _, lu, c2⟩ := h.edge e2
  rw [Int.toNat_natCast] at c1 c2
  have up : ∀ v, v < ns.length → 0 < lv.getD v 0 → aboveB lv ((pnT cs lv v : Nat) : Int) (v : Int) = true := fun v hv hl => by
    obtain ⟨_, _, _, _, hn, e⟩ := h.T.up hv hl
    rw [above_iffC, h.T.len]
    exact ⟨hn, hv, by omega, by omega, .inl (by omega)⟩
  have lx : 0 ≤ lv.getD (othN cs u k') 0 := by
    rcases c2 with ⟨g1, _, _, g4, _⟩ | ⟨c, _, g2, _, _, g5, _⟩
    · obtain ⟨_, _, _, _, _, e⟩ := h.T.up hu g1
      rw [g4]; omega
    · rw [g5]; omega
  refine ⟨y, u, othN cs u k', k, k', hy, hu, hx, hk, hk', a3, by show leavV cs (k : Int) (y : Int) < _; omega, b3, by show leavV cs (k' : Int) (u : Int) < _; omega, a1, b1, rfl, a2, b2, t1, t2, ly, lu, lx, fun hup => ?_, fun e => ?_⟩
  · rcases c1 with ⟨g1, _, _, g4, _⟩ | ⟨c, _, g2, _, _, g5, g6, _⟩
    · have := up y hy g1
      rw [← g4, o1] at this
      exact this
    · exfalso
      rw [o1] at g5
      subst g5
      rcases c2 with ⟨_, f2, _⟩ | ⟨c', f1, f2, _, f4, f5, _⟩
      · exact g6 f2
      · rw [f5, above_iffC] at hup
        obtain ⟨_, _, _, _, _, e⟩ := h.T.up f1 f2
        rw [f4] at e
        omega
  · subst e
    have g1 := (h.intree.go y _ e1).2.2.2
    have g2 := (h.intree.go u _ e2).2.2.2
    rw [Int.toNat_natCast, o1] at g1
    have : othN cs u k = y := oth_of (touchT_symm t1)
    rw [Int.toNat_natCast, this] at g2
    omega
end
end Go.Proofs.YtljojgpjgjfddaaGreat

/- Dependencies that turn as they may have no cycle, made trees' among them (the plain law for TreeCycles, joined with NB). No program in sight. -/
namespace Go.Proofs.YtljojgpjgjfddaaGreat
open Go.RowKit Go.Maps
set_option linter.unusedVariables false
set_option linter.unusedSimpArgs false

theorem MOk.turnOk {ns : List Nd} {cs : List Cb} {lv ms : List Int} {s : Nat} (h : MOk ns cs lv ms s) {d : Dp} (hd : d ∈ depT23 ns.length cs (mkT ns cs lv ms s)) : TurnOk ns.length cs lv d := by
  obtain ⟨u, v, x, i, i2, h1, h2, h3, h4, h5, h6, h7, h8, h9, h10, h11, h12, h13, h14, h15, h16, h17, h18, h19, h20, h21⟩ := h.turn_raw hd
  exact ⟨u, v, x, i, i2, h1, h2, h3, h4, h5, h6, h7, h8, h9, h10, h11, h12, h13, h14, h15, h16, h17, h18, h19, h20, h21⟩
theorem cyc_none {n : Nat} {cs : List Cb} {lv : List Int} (hll : lv.length = n) (hne : ∀ y ∈ cs, y.a ≠ y.b) {D : List Dp} (h : ∀ d ∈ D, TurnOk n cs lv d) : cycD D = [] := by
  have h1 := acy_of_rank (rankC cs lv n) D (fun d hd => (h d hd).rank hll hne)
  rcases cycD_spec D with ⟨_, h2, _⟩ | ⟨h2, _⟩
  · rw [h1] at h2; cases h2
  · exact h2
theorem TurnOk.wf {n : Nat} {cs : List Cb} {lv : List Int} {d : Dp} (h : TurnOk n cs lv d) (hn : n ≤ 16) (hc : cs.length ≤ 32) : WfDp d := by
  obtain ⟨u, v, x, i, i2, hu, hv, hx, hi, hi2, a1, a2, a3, a4, _, _, e, _⟩ := h
  exact ⟨wf_small _ (by omega) (by omega), wf_small _ (by omega) (by omega), wf_small _ (by omega) (by omega)⟩
theorem Net.wfd {ns : List Nd} {cs : List Cb} {us : List Bool} {lv : List Int} {G : GT} (h : Net ns cs us lv G) : WfD (depsD ⟨ns, cs⟩ lv (tabOf ns.length G)) := fun d hd => by
  obtain ⟨n16, c32⟩ := valid_sizes h.valid
  exact (h.turns d hd).wf n16 c32
theorem Net.dlen {ns : List Nd} {cs : List Cb} {us : List Bool} {lv : List Int} {G : GT} (h : Net ns cs us lv G) : (depsD ⟨ns, cs⟩ lv (tabOf ns.length G)).length ≤ 10000 := by
  obtain ⟨n16, c32⟩ := valid_sizes h.valid
  unfold depsD; rw [sortD_length]
  show (setOfD (depA cs lv (tabOf ns.length G) ns.length (2 * cs.length))).length ≤ 10000
  have g1 := setOfD_len (depA cs lv (tabOf ns.length G) ns.length (2 * cs.length))
  have g2 := depA_len cs lv (tabOf ns.length G) ns.length (2 * cs.length)
  have g3 : 2 * ns.length * (2 * cs.length) ≤ 32 * 64 := Nat.mul_le_mul (by omega) (by omega)
  omega
theorem turn_len {n : Nat} {cs : List Cb} {lv : List Int} {D : List Dp} (hD : D.Nodup) (h : ∀ d ∈ D, TurnOk n cs lv d) : D.length ≤ 2 * cs.length * (2 * cs.length) := by
  refine Nat.le_trans (nodup_lenG (S := (List.range (2 * cs.length)).flatMap fun (a : Nat) => (List.range (2 * cs.length)).map fun (b : Nat) => ((a : Int), (b : Int), (chEnds cs (a : Int)).2)) hD ?_) ?_
  · intro d hd
    obtain ⟨u, v, x, i, i2, _, _, _, _, _, h6, h7, h8, h9, h10, _, h12, _⟩ := h d hd
    obtain ⟨f, t, nd⟩ := d
    simp only at h6 h7 h8 h9 h10 h12
    refine List.mem_flatMap.2 ⟨f.toNat, List.mem_range.2 (by omega), List.mem_map.2 ⟨t.toNat, List.mem_range.2 (by omega), ?_⟩⟩
    rw [Int.toNat_of_nonneg h6, Int.toNat_of_nonneg h8, h10, h12]
  · rw [List.length_flatMap]
    simp [List.map_const']
/-- The list of the law at any time: no dependency twice, each turns as it may. -/
def AllOk (n : Nat) (cs : List Cb) (lv : List Int) (D : List Dp) : Prop := D.Nodup ∧ ∀ d ∈ D, TurnOk n cs lv d
theorem Asc.nodup {l : List Dp} (h : Asc l) : l.Nodup := h.imp fun {a b} hab e => by subst e; unfold lexD at hab; omega
theorem union_nodup (a b : List Dp) : (unionD a b).Nodup := (sortD_asc _ (setOfD_nodup _)).nodup
theorem AllOk.net {ns : List Nd} {cs : List Cb} {us : List Bool} {lv : List Int} {G : GT} (h : Net ns cs us lv G) : AllOk ns.length cs lv (depsD ⟨ns, cs⟩ lv (tabOf ns.length G)) := ⟨(sortD_asc _ (setOfD_nodup _)).nodup, h.turns⟩
theorem AllOk.union {n : Nat} {cs : List Cb} {lv : List Int} {a b : List Dp} (h : AllOk n cs lv a) (h2 : ∀ d ∈ b, TurnOk n cs lv d) : AllOk n cs lv (unionD a b) :=
  ⟨union_nodup a b, fun d hd => (mem_unionD.1 hd).elim (h.2 d) (h2 d)⟩
theorem AllOk.wfd {n : Nat} {cs : List Cb} {lv : List Int} {D : List Dp} (h : AllOk n cs lv D) (hn : n ≤ 16) (hc : cs.length ≤ 32) : WfD D := fun d hd => (h.2 d hd).wf hn hc
theorem AllOk.len {n : Nat} {cs : List Cb} {lv : List Int} {D : List Dp} (h : AllOk n cs lv D) (hc : cs.length ≤ 32) : D.length ≤ 4096 := by
  have h1 := turn_len h.1 h.2
  have h2 : 2 * cs.length * (2 * cs.length) ≤ 64 * 64 := Nat.mul_le_mul (by omega) (by omega)
  omega
end Go.Proofs.YtljojgpjgjfddaaGreat
