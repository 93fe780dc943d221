/- The contract of order.Valid. -/
import Derived.Test.YtljojgpjgjfddaaGreatCBase
namespace Go.Proofs.YtljojgpjgjfddaaGreat
open Go.RowKit Go.Maps
set_option linter.unusedVariables false

def lvAt (lv : List Int) (i : Int) : Int := lv.getD i.toNat 0
def levelOk (n : Nat) (x : Int) : Bool := decide (-1 ≤ x) && decide (x < n)
/-- A cable shows that node i is led to. -/
def leads (lv : List Int) (i : Nat) (c : Cb) : Bool := if lvAt lv c.a = lvAt lv c.b - 1 then c.b == (i : Int) else if lvAt lv c.b = lvAt lv c.a - 1 then c.a == (i : Int) else false
def ledTo (cs : List Cb) (lv : List Int) (k i : Nat) : Bool := (cs.take k).any (leads lv i)
def nodeOk (cs : List Cb) (lv : List Int) (i : Nat) : Bool := !(decide (0 < lv.getD i 0)) || ledTo cs lv cs.length i
def orderB (p : Pl) (lv : List Int) : Bool :=
  decide (validP p = 0) && decide (lv.length = p.ns.length) && lv.all (levelOk p.ns.length) && decide (lv.countP (· == 0) = 1) && (List.range lv.length).all (nodeOk p.cs lv)
theorem cab_node {ns : List Nd} {cs : List Cb} (h : validP ⟨ns, cs⟩ = 0) {c : Cb} (hc : c ∈ cs) : (0 ≤ c.a ∧ c.a < ns.length) ∧ 0 ≤ c.b ∧ c.b < ns.length := by
  have hp : cs.all (okPorts ns) = true := by
    cases hq : cs.all (okPorts ns) with
    | true => rfl
    | false =>
      unfold validP at h
      simp only [hq] at h
      split at h
      · cases h
      · split at h
        · cases h
        · cases h
  have h2 := List.all_eq_true.1 hp _ hc
  unfold okPorts hasPort at h2
  simp only [Bool.and_eq_true, decide_eq_true_eq] at h2
  exact ⟨⟨h2.1.1.1.1, h2.1.1.1.2⟩, h2.2.1.1.1, h2.2.1.1.2⟩
theorem valid_sizes {ns : List Nd} {cs : List Cb} (h : validP ⟨ns, cs⟩ = 0) : ns.length ≤ 16 ∧ cs.length ≤ 32 := by
  unfold validP at h
  split at h
  · cases h
  · rename_i h1; simp only at h1; omega
section
variable {p : Pl} {lv : List Int}
theorem ob1 (h : validP p ≠ 0) : orderB p lv = false := by unfold orderB; rw [decide_eq_false h]; rfl
theorem ob2 (h : lv.length ≠ p.ns.length) : orderB p lv = false := by unfold orderB; rw [decide_eq_false h]; simp
theorem ob3 (h : lv.all (levelOk p.ns.length) = false) : orderB p lv = false := by unfold orderB; rw [h]; simp
theorem ob4 (h : lv.countP (· == 0) ≠ 1) : orderB p lv = false := by unfold orderB; rw [decide_eq_false h]; simp
theorem ob5 (h : (List.range lv.length).all (nodeOk p.cs lv) = false) : orderB p lv = false := by unfold orderB; rw [h]; simp
theorem ob0 (h1 : validP p = 0) (h2 : lv.length = p.ns.length) (h3 : lv.all (levelOk p.ns.length) = true) (h4 : lv.countP (· == 0) = 1) (h5 : (List.range lv.length).all (nodeOk p.cs lv) = true) : orderB p lv = true := by
  unfold orderB; rw [decide_eq_true h1, decide_eq_true h2, h3, decide_eq_true h4, h5]; rfl
end
theorem beqN (a i : Nat) : (((a : Int) == (i : Int)) : Bool) = (a == i) := by rw [Bool.eq_iff_iff, beq_iff_eq, beq_iff_eq]; omega
theorem nat_ne {n : Nat} (h : ((n : Int) != 1) = true) : n ≠ 1 := by
  have : ¬ ((n : Int) = 1) := by simpa using h
  omega
theorem nat_eq {n : Nat} (h : ((n : Int) != 1) = false) : n = 1 := by
  have : (n : Int) = 1 := by simpa using h
  omega
theorem countP_snoc (lv : List Int) (k : Nat) (h : k < lv.length) : (lv.take (k + 1)).countP (· == 0) = (lv.take k).countP (· == 0) + if lv.getD k 0 == 0 then 1 else 0 := by
  rw [take_snocG 0 lv k h, List.countP_append, List.countP_singleton]
def RelO1 (lv : List Int) (n : Nat) (w2 : World) (r i : Value) (wr : World) : Prop :=
  ∃ k : Nat, k ≤ lv.length ∧ i = .int .i64 k ∧ r = .int .i64 (((lv.take k).countP (· == 0) : Nat) : Int) ∧ (∀ x ∈ lv.take k, levelOk n x = true) ∧ w2 = wr
def RelO2 (cs : List Cb) (lv : List Int) (n : Nat) (w2 : World) (i : Value) (wr : World) : Prop :=
  ∃ k : Nat, k ≤ cs.length ∧ i = .int .i64 k ∧ RBlk wr w2.heap.size 4 1 n (fun i => [.bool (ledTo cs lv k i)]) ∧ Below w2.heap.size w2 wr
def RelO3 (cs : List Cb) (lv : List Int) (i : Value) : Prop :=
  ∃ k : Nat, k ≤ lv.length ∧ i = .int .i64 k ∧ ((List.range k).all (nodeOk cs lv)) = true
theorem ledTo_step (cs : List Cb) (lv : List Int) (k i : Nat) (h : k < cs.length) : ledTo cs lv (k + 1) i = (ledTo cs lv k i || leads lv i (cs.getD k cb0)) := by
  unfold ledTo; rw [take_snocG cb0 cs k h, List.any_append]; simp

set_option maxRecDepth 100000 in
set_option maxHeartbeats 4000000 in
theorem order_any (p : Pl) (lv : List Int) (An Ac Al : Option Addr) (cn cc cl : Nat) (w : World) (hl : p.ns.length ≤ 1000000) (hl2 : p.cs.length ≤ 1000000) (hwf : WfP p) (hlv : lv.length ≤ 1000000) (hwl : WfI lv) (h : IsPlan w An Ac p) (h2 : IsRec 1 cI 0 w Al lv.length lv) :
    Calls Tryz.prog 32 #[.agg #[.slice An p.ns.length cn, .slice Ac p.cs.length cc], .agg #[.slice Al lv.length cl]] w fun e w' => e = .returned (.bool (orderB p lv)) ∧ Below w.heap.size w w' := by
  obtain ⟨ns, cs⟩ := p
  simp only at hl hl2 ⊢
  have HW := Lib.hid hwf
  obtain ⟨w1, hw1⟩ : ∃ w1 : World, (w.alloc (.cells #[.slice An ns.length cn, .slice Ac cs.length cc] 25)).alloc (.cells #[.slice Al lv.length cl] 30) = w1 := ⟨_, rfl⟩
  have s0 : w1.cell? ⟨w.heap.size, 0, none⟩ = some (.slice An ns.length cn) := by rw [← hw1]; simp [go_sem]
  have s1 : w1.cell? ⟨w.heap.size, 1, none⟩ = some (.slice Ac cs.length cc) := by rw [← hw1]; simp [go_sem]
  have s2 : w1.cell? ⟨w.heap.size + 1, 0, none⟩ = some (.slice Al lv.length cl) := by rw [← hw1]; simp [go_sem]
  have sz1 : w.heap.size + 1 < w1.heap.size := by rw [← hw1]; simp
  have BW0 : Below w.heap.size w w1 := by rw [← hw1]; exact ((Below.refl _ _).alloc (Nat.le_refl _) _).alloc (by simp) _
  have H1 := Lib.hid (h.below (Nat.le_refl _) BW0)
  have L1 := Lib.hid (h2.below (Nat.le_refl _) BW0)
  have HW1 := Lib.hid hw1
  have KC : Hid (∀ w', Below w1.heap.size w1 w' → w'.cell? ⟨w.heap.size, 0, none⟩ = some (.slice An ns.length cn) ∧ w'.cell? ⟨w.heap.size, 1, none⟩ = some (.slice Ac cs.length cc) ∧ w'.cell? ⟨w.heap.size + 1, 0, none⟩ = some (.slice Al lv.length cl) ∧ w.heap.size + 1 < w'.heap.size ∧ Below w.heap.size w w') :=
    fun w' hb => ⟨(hb.cell (by show w.heap.size < _; omega)).trans s0, (hb.cell (by show w.heap.size < _; omega)).trans s1, (hb.cell (by exact sz1)).trans s2, by have := hb.size; omega, BW0.trans (hb.mono (by omega))⟩
  clear h h2 hw1 hwf BW0
  by_cases hv : validP ⟨ns, cs⟩ = 0
  · have HV := Lib.hid hv
    obtain ⟨n16, c32⟩ := valid_sizes hv
    clear hv
    go_enter Tryz.func32, Tryz.ntmps32
    go_wp2_with fail
    rw [HW1.out]
    refine (gvalid_any ⟨ns, cs⟩ An Ac cn cc _ hl hl2 HW.out H1.out).mono ?_
    rintro e w2 ⟨rfl, bel2⟩
    rw [HV.out]
    have B2 := Lib.hid bel2
    clear s0 s1 s2
    obtain ⟨u0, u1, u2, sz2, bw2⟩ := KC.out w2 bel2
    have BF2 := Lib.hid bw2
    clear bel2 bw2
    by_cases hll : lv.length = ns.length
    · have q1 : ((lv.length : Int) != (ns.length : Int)) = false := by simp [hll]
      have HLL := Lib.hid hll
      have L2 := Lib.hid (L1.out.below (Nat.le_refl _) B2.out)
      have C2 := Lib.hid ((H1.out.below (Nat.le_refl _) B2.out).2)
      have hn16 : lv.length ≤ 16 := by omega
      clear hll
      go_wp2_with fail
      clear q1
      go_loopw [5, 28] (fun r i wr => RelO1 lv ns.length w2 r i wr) (fun _ i _ => lv.length - (RowKit.intOf i).toNat)
      case atStart => exact ⟨0, Nat.zero_le _, rfl, rfl, by simp, rfl⟩
      case round =>
        obtain ⟨k, hk, rfl, rfl, hall, rfl⟩ := hrel
        have HA := Lib.hid hall
        clear hall
        have hcl : (lv.take k).countP (· == 0) ≤ 16 := Nat.le_trans List.countP_le_length (by rw [List.length_take]; omega)
        by_cases hkr : k < lv.length
        · obtain ⟨b1, o1, ha1, hb1, hm1, e1⟩ := int_at L2.out k hkr
          have CS := Lib.hid (countP_snoc lv k hkr)
          have HS : Hid (levelOk ns.length (lv.getD k 0) = true → ∀ x ∈ lv.take (k + 1), levelOk ns.length x = true) := fun h => mem_take_snoc (d := 0) (P := fun x => levelOk ns.length x = true) hkr HA.out h
          have HB : Hid (levelOk ns.length (lv.getD k 0) = false → lv.all (levelOk ns.length) = false) := fun h => by rw [List.all_eq_false]; exact ⟨_, hm1, by rw [h]; simp⟩
          have wfx := hwl _ hm1
          generalize lv.getD k 0 = x at *
          subst ha1
          clear hm1
          generalize hcc : (lv.take k).countP (· == 0) = cnt at *
          have HCC := Lib.hid hcc
          clear hcc
          cases hlo : levelOk ns.length x with
          | false =>
            have FIN := Lib.hid (ob3 (p := ⟨ns, cs⟩) (lv := lv) (HB.out hlo))
            have hb : x < -1 ∨ (-1 ≤ x ∧ (ns.length : Int) ≤ x) := by
              simp [levelOk] at hlo
              rcases Int.lt_or_le x (-1) with h | h
              · exact .inl h
              · exact .inr ⟨h, hlo h⟩
            clear hlo HB HS CS
            rcases hb with h1 | ⟨h1, h2⟩
            all_goals
              go_wp2_with fail
              go_ret
              exact ⟨by rw [FIN.out]; rfl, BF2.out⟩
          | true =>
            have hb : -1 ≤ x ∧ x < ns.length := by simpa [levelOk] using hlo
            obtain ⟨x1, x2⟩ := hb
            have HS2 := Lib.hid (HS.out hlo)
            clear hlo HB HS
            cases hz : x == 0 with
            | true =>
              have R : Hid (RelO1 lv ns.length w2 (.int .i64 ((cnt : Int) + 1)) (.int .i64 ((k + 1 : Nat) : Int)) w2) := ⟨k + 1, by omega, rfl, by rw [CS.out, hz]; rfl, HS2.out, rfl⟩
              clear CS HCC
              go_wp2_with fail
              exact ⟨by simpa using R.out, by simp [RowKit.intOf]; omega⟩
            | false =>
              have R : Hid (RelO1 lv ns.length w2 (.int .i64 (cnt : Int)) (.int .i64 ((k + 1 : Nat) : Int)) w2) := ⟨k + 1, by omega, rfl, by rw [CS.out, hz]; rfl, HS2.out, rfl⟩
              clear CS HCC
              go_wp2_with fail
              exact ⟨by simpa using R.out, by simp [RowKit.intOf]; omega⟩
        · obtain rfl : k = lv.length := by omega
          rw [List.take_length]
          have AL := Lib.hid (all_of_take HA.out)
          generalize hcc : lv.countP (· == 0) = cnt at *
          rw [List.take_length, hcc] at hcl
          cases h1 : (cnt : Int) != 1 with
          | true =>
            have FIN : Hid (orderB ⟨ns, cs⟩ lv = false) := ob4 (by rw [hcc]; exact nat_ne h1)
            clear hcc HA
            go_wp2_with fail
            go_ret
            exact ⟨by rw [FIN.out]; rfl, BF2.out⟩
          | false =>
            have C1 : Hid (lv.countP (· == 0) = 1) := by rw [Hid, hcc]; exact nat_eq h1
            clear hcc HA
            obtain ⟨j0, hj0, hy0, hy1, hy2⟩ := info_parts infoBool
            have sz20 : w.heap.size < w2.heap.size := by omega
            obtain ⟨o4, ho4⟩ : ∃ o4, Obj.cells (madeCells #[.bool false] ns.length) 4 = o4 := ⟨_, rfl⟩
            have HO4 := Lib.hid ho4
            clear ho4
            go_wp2_with (at_make; refine wpList_make_rec _ rfl _ _ 26 rfl 4 j0 _ 1 Tryz.underlying26 hj0 hy0 hy1 .i64 .i64 _ _ ns.length rfl rfl ?m1 ?m2 (by rw [hy2]; omega) (by unfold maxLen; omega) ?_)
            case m1 => rfl
            case m2 => rfl
            rw [HO4.out]
            obtain ⟨w4, hw4⟩ : ∃ w4 : World, w2.alloc o4 = w4 := ⟨_, rfl⟩
            have ST : Hid (RelO2 cs lv ns.length w2 (.int .i64 0) w4) := by
              refine ⟨0, Nat.zero_le _, rfl, ?_, ?_⟩
              · rw [← hw4, ← HO4.out]
                have := RBlk.made w2 (m := 1) (n := ns.length) (t := 4) (z := #[.bool false]) rfl (by decide)
                rw [Nat.mul_one] at this
                exact this.congr fun i hi => rfl
              · rw [← hw4]; exact (Below.refl _ _).alloc (Nat.le_refl _) _
            have k4 : Below w2.heap.size w2 w4 := by rw [← hw4]; exact (Below.refl _ _).alloc (Nat.le_refl _) _
            obtain ⟨v0, v1, v2, _, _⟩ := KC.out w4 (B2.out.trans (k4.mono B2.out.size))
            rw [hw4]
            clear hw4 HO4 u0 u1 u2 hj0 hy0 hy1 hy2 k4
            go_wp2_with fail
            go_loopw [55] (fun i wr => RelO2 cs lv ns.length w2 i wr) (fun i _ => cs.length - (RowKit.intOf i).toNat)
            case atStart => exact ST.out
            case round =>
              clear ST v0 v1 v2
              obtain ⟨k, hk, rfl, rb, bel⟩ := hrel
              have bs := bel.size
              have RB := Lib.hid rb
              have gl := rb.lt
              clear rb
              obtain ⟨u0, u1, u2, sz3, bw3⟩ := KC.out wr (B2.out.trans (bel.mono B2.out.size))
              have BF3 := Lib.hid bw3
              clear bw3
              by_cases hkr : k < cs.length
              · obtain ⟨bb, off, ha, hbb, hmem, c0, c1, c2, c3, c4, c5⟩ := cable_at (C2.out.below (Nat.le_refl _) bel) k hkr
                obtain ⟨⟨na0, na1⟩, nb0, nb1⟩ := cab_node HV.out hmem
                have LS := Lib.hid (fun i => ledTo_step cs lv k i hkr)
                generalize cs.getD k cb0 = x at *
                obtain ⟨xa, xap, xb, xbp, xd, xc⟩ := x
                simp only at c0 c1 c2 c3 c4 c5 na0 na1 nb0 nb1
                subst ha
                clear hmem
                obtain ⟨ia, rfl⟩ : ∃ ia : Nat, xa = ia := ⟨xa.toNat, by omega⟩
                obtain ⟨ib, rfl⟩ : ∃ ib : Nat, xb = ib := ⟨xb.toNat, by omega⟩
                have hlln := HLL.out
                have ja : ia < lv.length := by omega
                have jb : ib < lv.length := by omega
                have iaw : (ia : Int) < (lv.length : Int) := by omega
                have ibw : (ib : Int) < (lv.length : Int) := by omega
                have iaz : (0 : Int) ≤ (ia : Int) := by omega
                have ibz : (0 : Int) ≤ (ib : Int) := by omega
                have hian : ia < ns.length := by omega
                have hibn : ib < ns.length := by omega
                obtain ⟨wa, hwa⟩ : ∃ wa : World, wr.alloc (.cells #[.int .i64 ia, .int .i64 xap, .int .i64 ib, .int .i64 xbp, .int .i64 xd, .int .i64 xc] 85) = wa := ⟨_, rfl⟩
                have belA : Below wr.heap.size wr wa := hwa ▸ (Below.refl _ _).alloc (Nat.le_refl _) _
                have bel2a := bel.trans (belA.mono bs)
                obtain ⟨bl, ol, hal, hbl, hma, ea⟩ := int_at (L2.out.below (Nat.le_refl _) bel2a) ia ja
                obtain ⟨bl', ol', hal', _, hmb, eb⟩ := int_at (L2.out.below (Nat.le_refl _) bel2a) ib jb
                rw [hal] at hal'
                injection hal' with hal'
                injection hal' with hal1 hal2
                subst hal1
                subst hal2
                have la := List.all_eq_true.1 AL.out _ hma
                have lb := List.all_eq_true.1 AL.out _ hmb
                have LD : Hid (∀ i, leads lv i ⟨ia, xap, ib, xbp, xd, xc⟩ = if lv.getD ia 0 = lv.getD ib 0 - 1 then ib == i else if lv.getD ib 0 = lv.getD ia 0 - 1 then ia == i else false) := fun i => by
                  unfold leads lvAt
                  simp only [Int.toNat_natCast, beqN]
                generalize lv.getD ia 0 = va at *
                generalize lv.getD ib 0 = vb at *
                have la' : -1 ≤ va ∧ va < ns.length := by simpa [levelOk] using la
                have lb' : -1 ≤ vb ∧ vb < ns.length := by simpa [levelOk] using lb
                obtain ⟨la1, la2⟩ := la'
                obtain ⟨lb1, lb2⟩ := lb'
                subst hal
                have t0 : wa.cell? ⟨wr.heap.size, 0, none⟩ = some (.int .i64 ia) := by rw [← hwa]; simp [go_sem]
                have t2 : wa.cell? ⟨wr.heap.size, 2, none⟩ = some (.int .i64 ib) := by rw [← hwa]; simp [go_sem]
                have RBA : Hid (RBlk wa w2.heap.size 4 1 ns.length (fun i => [.bool (ledTo cs lv k i)])) := RB.out.below belA gl
                have ua2 : wa.cell? ⟨w.heap.size + 1, 0, none⟩ = some (.slice (some ⟨bl, ol, none⟩) lv.length cl) := (belA.cell (by exact sz3)).trans u2
                have cya : ∀ i, i < ns.length → wa.cell? ⟨w2.heap.size, i, none⟩ = some (.bool (ledTo cs lv k i)) := fun i hi => by
                  have := RBA.out.cell (i := i) (j := 0) hi (by omega)
                  simpa using this
                have ya := cya ia hian
                have yb := cya ib hibn
                have fa : wa.frozen? ⟨w2.heap.size, ia, none⟩ = false := RBA.out.frozen _
                have fb : wa.frozen? ⟨w2.heap.size, ib, none⟩ = false := RBA.out.frozen _
                have HWA := Lib.hid hwa
                have BELA := Lib.hid bel2a
                have ws1 : IntKind.i64.wrap (vb - 1) = vb - 1 := IntWalk.i64_in _ (by omega)
                have ws2 : IntKind.i64.wrap (va - 1) = va - 1 := IntWalk.i64_in _ (by omega)
                have sza : wr.heap.size < wa.heap.size := by rw [← hwa]; simp
                clear hwa cya belA bel bel2a hma hmb la lb hlln
                have STP : Hid (∀ q i, i < ns.length → (∀ j, j < ns.length → leads lv j ⟨ia, xap, ib, xbp, xd, xc⟩ = (i == j)) → RelO2 cs lv ns.length w2 (.int .i64 ((k + 1 : Nat) : Int)) ((wa.drewN q).setCell ⟨w2.heap.size, i, none⟩ (.bool true))) := fun q i hi hld => by
                  refine ⟨k + 1, by omega, rfl, ?_, (below_drewN BELA.out q).setCell (Nat.le_refl _) _⟩
                  refine ((RBA.out.drewN q).set1 hi _).congr fun j hj => ?_
                  unfold setR
                  rw [LS.out j, hld j hj]
                  by_cases e : j = i
                  · subst e; simp
                  · have : ¬ i = j := fun h => e h.symm
                    simp [e, this]
                have STN : Hid (∀ q, (∀ j, j < ns.length → leads lv j ⟨ia, xap, ib, xbp, xd, xc⟩ = false) → RelO2 cs lv ns.length w2 (.int .i64 ((k + 1 : Nat) : Int)) (wa.drewN q)) := fun q hld => by
                  refine ⟨k + 1, by omega, rfl, ?_, below_drewN BELA.out q⟩
                  refine (RBA.out.drewN q).congr fun j hj => ?_
                  rw [LS.out j, hld j hj]; simp
                go_wp2_with fail
                rw [HWA.out]
                clear HWA c0 c1 c2 c3 c4 c5 u0 u1 u2
                cases h1 : va == vb - 1 with
                | true =>
                  have LQ : Hid (∀ j, j < ns.length → leads lv j ⟨ia, xap, ib, xbp, xd, xc⟩ = (ib == j)) := fun j hj => by rw [LD.out, if_pos (by simpa using h1)]
                  have SQ := Lib.hid (fun q => STP.out q ib hibn LQ.out)
                  clear LD LS STP STN LQ ws2
                  go_quiet (fail)
                  clear ws1
                  go_wp2_with fail
                  exact ⟨by simpa using SQ.out _, by simp [RowKit.intOf]; omega⟩
                | false =>
                  have n1 : ¬ va = vb - 1 := by simpa using h1
                  cases h2 : vb == va - 1 with
                  | true =>
                    have LQ : Hid (∀ j, j < ns.length → leads lv j ⟨ia, xap, ib, xbp, xd, xc⟩ = (ia == j)) := fun j hj => by rw [LD.out, if_neg n1, if_pos (by simpa using h2)]
                    have SQ := Lib.hid (fun q => STP.out q ia hian LQ.out)
                    clear LD LS STP STN LQ n1
                    go_quiet (fail)
                    go_wp2_with fail
                    go_quiet (fail)
                    clear ws1 ws2
                    go_wp2_with fail
                    exact ⟨by simpa using SQ.out _, by simp [RowKit.intOf]; omega⟩
                  | false =>
                    have n2 : ¬ vb = va - 1 := by simpa using h2
                    have LQ : Hid (∀ j, j < ns.length → leads lv j ⟨ia, xap, ib, xbp, xd, xc⟩ = false) := fun j hj => by rw [LD.out, if_neg n1, if_neg n2]
                    have SQ := Lib.hid (fun q => STN.out q LQ.out)
                    clear LD LS STP STN LQ n1 n2
                    go_quiet (fail)
                    go_wp2_with fail
                    go_quiet (fail)
                    clear ws1 ws2
                    go_wp2_with fail
                    exact ⟨by simpa using SQ.out _, by simp [RowKit.intOf]; omega⟩
              · obtain rfl : k = cs.length := by omega
                have L6 := Lib.hid (L2.out.below (Nat.le_refl _) bel)
                have hlln := HLL.out
                have hlln1 : lv.length ≤ ns.length := by omega
                clear hlln bel
                go_wp2_with fail
                go_loop [101] (fun i => RelO3 cs lv i) (fun i => lv.length - (RowKit.intOf i).toNat)
                case atStart => exact ⟨0, Nat.zero_le _, rfl, rfl⟩
                case round =>
                  obtain ⟨k, hk, rfl, hall⟩ := hrel
                  have HA := Lib.hid hall
                  clear hall
                  by_cases hkr : k < lv.length
                  · obtain ⟨b1, o1, ha1, hb1, hm1, e1⟩ := int_at L6.out k hkr
                    have AS : Hid ((List.range (k + 1)).all (nodeOk cs lv) = ((List.range k).all (nodeOk cs lv) && nodeOk cs lv k)) := by rw [Hid, List.range_succ, List.all_append]; simp
                    have AB : Hid (nodeOk cs lv k = false → (List.range lv.length).all (nodeOk cs lv) = false) := fun h => by rw [List.all_eq_false]; exact ⟨k, List.mem_range.2 hkr, by rw [h]; simp⟩
                    have ND : Hid (nodeOk cs lv k = (!(decide (0 < lv.getD k 0)) || ledTo cs lv cs.length k)) := rfl
                    have cy : wr.cell? ⟨w2.heap.size, k, none⟩ = some (.bool (ledTo cs lv cs.length k)) := by
                      have := RB.out.cell (i := k) (j := 0) (by omega) (by omega)
                      simpa using this
                    have i1 : (k : Int) < (ns.length : Int) := by omega
                    have i0 : (0 : Int) ≤ (k : Int) := by omega
                    generalize lv.getD k 0 = x at *
                    generalize ledTo cs lv cs.length k = b at *
                    subst ha1
                    clear hm1
                    cases h0 : decide (0 < x) with
                    | false =>
                      have R : Hid (RelO3 cs lv (.int .i64 ((k + 1 : Nat) : Int))) := ⟨k + 1, by omega, rfl, by rw [AS.out, HA.out, ND.out, h0]; rfl⟩
                      clear AS AB ND
                      go_wp2_with fail
                      exact ⟨by simpa using R.out, by simp [RowKit.intOf]; omega⟩
                    | true =>
                      cases b with
                      | true =>
                        have R : Hid (RelO3 cs lv (.int .i64 ((k + 1 : Nat) : Int))) := ⟨k + 1, by omega, rfl, by rw [AS.out, HA.out, ND.out, h0]; rfl⟩
                        clear AS AB ND
                        go_wp2_with fail
                        exact ⟨by simpa using R.out, by simp [RowKit.intOf]; omega⟩
                      | false =>
                        have FIN : Hid (orderB ⟨ns, cs⟩ lv = false) := ob5 (AB.out (by rw [ND.out, h0]; rfl))
                        clear AS AB ND
                        go_wp2_with fail
                        go_ret
                        exact ⟨by rw [FIN.out]; rfl, BF3.out⟩
                  · obtain rfl : k = lv.length := by omega
                    have FIN : Hid (orderB ⟨ns, cs⟩ lv = true) := ob0 HV.out HLL.out AL.out C1.out HA.out
                    go_wp2_with fail
                    go_ret
                    exact ⟨by rw [FIN.out]; rfl, BF3.out⟩
    · have q1 : ((lv.length : Int) != (ns.length : Int)) = true := by simp; omega
      have FIN := Lib.hid (ob2 (p := ⟨ns, cs⟩) (lv := lv) hll)
      clear hll
      go_wp2_with fail
      go_ret
      exact ⟨by rw [FIN.out]; rfl, BF2.out⟩
  · have FIN := Lib.hid (ob1 (lv := lv) hv)
    have q1 : (validP ⟨ns, cs⟩ != 0) = true := by simpa using hv
    go_enter Tryz.func32, Tryz.ntmps32
    go_wp2_with fail
    rw [HW1.out]
    refine (gvalid_any ⟨ns, cs⟩ An Ac cn cc _ hl hl2 HW.out H1.out).mono ?_
    rintro e w2 ⟨rfl, bel2⟩
    obtain ⟨u0, u1, u2, sz2, bw2⟩ := KC.out w2 bel2
    have BF2 := Lib.hid bw2
    generalize validP ⟨ns, cs⟩ = vv at *
    clear bel2 bw2 s0 s1 s2 hv
    go_wp2_with fail
    go_ret
    exact ⟨by rw [FIN.out]; rfl, BF2.out⟩
end Go.Proofs.YtljojgpjgjfddaaGreat
