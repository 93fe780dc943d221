/- The contract of graph.Valid. -/
import Derived.Test.YtljojgpjgjfddaaGRep
namespace Go.Proofs.Ytljojgpjgjfddaa
open Go.RowKit Go.Maps
set_option linter.unusedVariables false

/-- All of the first k elements are alright; the world has grown. -/
def RelAll {α : Type} (f : α → Bool) (xs : List α) (B : Nat) (w1 : World) (i : Value) (wr : World) : Prop :=
  ∃ k : Nat, k ≤ xs.length ∧ i = .int .i64 k ∧ (xs.take k).all f = true ∧ Below B w1 wr
theorem all_snoc {α : Type} (f : α → Bool) (d : α) (xs : List α) (k : Nat) (h : k < xs.length) : (xs.take (k + 1)).all f = ((xs.take k).all f && f (xs.getD k d)) := by
  rw [take_snocG d xs k h, List.all_append]; simp
theorem all_bad {α : Type} (f : α → Bool) (d : α) (xs : List α) (k : Nat) (h : k < xs.length) (hf : f (xs.getD k d) = false) : xs.all f = false := by
  rw [List.all_eq_false]
  exact ⟨xs.getD k d, by simp [List.getD, h], by rw [hf]; simp⟩

section
variable {p : Pl}
theorem validP5 (h : 16 < p.ns.length ∨ 32 < p.cs.length) : validP p = 5 := by unfold validP; rw [if_pos h]
theorem validP1 (h : ¬(16 < p.ns.length ∨ 32 < p.cs.length)) (h1 : p.ns.all okNode = false) : validP p = 1 := by unfold validP; rw [if_neg h, if_pos h1]
theorem validP2 (h : ¬(16 < p.ns.length ∨ 32 < p.cs.length)) (h1 : p.ns.all okNode = true) (h2 : p.cs.all (okPorts p.ns) = false) : validP p = 2 := by unfold validP; rw [if_neg h, if_neg (by rw [h1]; simp), if_pos h2]
theorem validP8 (h : ¬(16 < p.ns.length ∨ 32 < p.cs.length)) (h1 : p.ns.all okNode = true) (h2 : p.cs.all (okPorts p.ns) = true) (h3 : repeatsB p = true) : validP p = 8 := by unfold validP; rw [if_neg h, if_neg (by rw [h1]; simp), if_neg (by rw [h2]; simp), if_pos h3]
theorem validP12 (h : ¬(16 < p.ns.length ∨ 32 < p.cs.length)) (h1 : p.ns.all okNode = true) (h2 : p.cs.all (okPorts p.ns) = true) (h3 : repeatsB p = false) (h4 : (p.cs.all fun x => decide (x.a ≠ x.b)) = false) : validP p = 12 := by unfold validP; rw [if_neg h, if_neg (by rw [h1]; simp), if_neg (by rw [h2]; simp), if_neg (by rw [h3]; simp), if_pos h4]
theorem validP3 (h : ¬(16 < p.ns.length ∨ 32 < p.cs.length)) (h1 : p.ns.all okNode = true) (h2 : p.cs.all (okPorts p.ns) = true) (h3 : repeatsB p = false) (h4 : (p.cs.all fun x => decide (x.a ≠ x.b)) = true) (h5 : p.cs.all okForm = false) : validP p = 3 := by unfold validP; rw [if_neg h, if_neg (by rw [h1]; simp), if_neg (by rw [h2]; simp), if_neg (by rw [h3]; simp), if_neg (by rw [h4]; simp), if_pos h5]
theorem validP0 (h : ¬(16 < p.ns.length ∨ 32 < p.cs.length)) (h1 : p.ns.all okNode = true) (h2 : p.cs.all (okPorts p.ns) = true) (h3 : repeatsB p = false) (h4 : (p.cs.all fun x => decide (x.a ≠ x.b)) = true) (h5 : p.cs.all okForm = true) : validP p = 0 := by unfold validP; rw [if_neg h, if_neg (by rw [h1]; simp), if_neg (by rw [h2]; simp), if_neg (by rw [h3]; simp), if_neg (by rw [h4]; simp), if_neg (by rw [h5]; simp)]
end

theorem port_any2 (ns : List Nd) (cs : List Cb) (An Ac : Option Addr) (cn cc : Nat) (node port : Int) (w : World) (hl : ns.length ≤ 1000000) (h : IsPlan w An Ac ⟨ns, cs⟩) (r : Bool) (hr : hasPort ns node port = r)
    (ob : Obj) (hob : Obj.cells #[.slice An ns.length cn, .slice Ac cs.length cc] 25 = ob) :
    Calls Try.prog 79 #[.agg #[.slice An ns.length cn, .slice Ac cs.length cc], .int .i64 node, .int .i64 port] w fun e w' => e = .returned (.bool r) ∧ w.alloc ob = w' := by
  subst hr; subst hob
  exact port_any ⟨ns, cs⟩ An Ac cn cc node port w hl h

set_option maxRecDepth 100000 in
set_option maxHeartbeats 8000000 in
theorem gvalid_any (p : Pl) (An Ac : Option Addr) (cn cc : Nat) (w : World) (hl : p.ns.length ≤ 1000000) (hl2 : p.cs.length ≤ 1000000) (hwf : WfP p) (h : IsPlan w An Ac p) :
    Calls Try.prog 43 #[.agg #[.slice An p.ns.length cn, .slice Ac p.cs.length cc]] w fun e w' => e = .returned (.int .i64 (validP p)) ∧ Below w.heap.size w w' := by
  obtain ⟨ns, cs⟩ := p
  simp only at hl hl2 ⊢
  have H := Lib.hid h
  have HW := Lib.hid hwf
  clear h hwf
  have HB0 : Hid ((w.alloc (.cells #[.slice An ns.length cn, .slice Ac cs.length cc] 25)).cell? ⟨w.heap.size, 0, none⟩ = some (.slice An ns.length cn)) := by
    show _ = _; simp [go_sem]
  have HB1 : Hid ((w.alloc (.cells #[.slice An ns.length cn, .slice Ac cs.length cc] 25)).cell? ⟨w.heap.size, 1, none⟩ = some (.slice Ac cs.length cc)) := by
    show _ = _; simp [go_sem]
  have H1 := Lib.hid (H.out.alloc (.cells #[.slice An ns.length cn, .slice Ac cs.length cc] 25))
  have HBW : Hid (Below w.heap.size w (w.alloc (.cells #[.slice An ns.length cn, .slice Ac cs.length cc] 25))) := (Below.refl _ _).alloc (Nat.le_refl _) _
  have hsz : (w.alloc (.cells #[.slice An ns.length cn, .slice Ac cs.length cc] 25)).heap.size = w.heap.size + 1 := by simp
  clear H
  by_cases h16 : 16 < ns.length
  · have FIN := Lib.hid (validP5 (p := ⟨ns, cs⟩) (.inl h16))
    go_enter Try.func43, Try.ntmps43
    go_wp2_with fail
    go_ret
    exact ⟨by rw [FIN.out]; rfl, HBW.out⟩
  by_cases h32 : 32 < cs.length
  · have FIN := Lib.hid (validP5 (p := ⟨ns, cs⟩) (.inr h32))
    go_enter Try.func43, Try.ntmps43
    go_wp2_with fail
    go_ret
    exact ⟨by rw [FIN.out]; rfl, HBW.out⟩
  have V : Hid (¬(16 < (⟨ns, cs⟩ : Pl).ns.length ∨ 32 < (⟨ns, cs⟩ : Pl).cs.length)) := by
    rintro (h | h)
    · exact h16 h
    · exact h32 h
  go_enter Try.func43, Try.ntmps43
  go_wp2_with fail
  go_loopw [24] (fun i wr => RelAll okNode ns (w.heap.size + 1) (w.alloc (.cells #[.slice An ns.length cn, .slice Ac cs.length cc] 25)) i wr) (fun i _ => ns.length - (intOf i).toNat)
  case atStart => exact ⟨0, Nat.zero_le _, rfl, rfl, Below.refl _ _⟩
  case round =>
    generalize w.alloc (.cells #[.slice An ns.length cn, .slice Ac cs.length cc] 25) = w1 at *
    obtain ⟨k, hk, rfl, hall, bel⟩ := hrel
    have bs := bel.size
    have HA := Lib.hid hall
    clear hall
    have HP := Lib.hid (H1.out.below (by omega) bel)
    by_cases hkr : k < ns.length
    · obtain ⟨bb, off, ha, hbb, hmem, c0, c1, c2⟩ := node_at HP.out.1 k hkr
      have AS := Lib.hid (all_snoc okNode nd0 ns k hkr)
      have AB := Lib.hid (all_bad okNode nd0 ns k hkr)
      generalize ns.getD k nd0 = x at *
      subst ha
      cases hx : okNode x with
      | false =>
        have FIN := Lib.hid (validP1 (p := ⟨ns, cs⟩) V.out (AB.out hx))
        have HX := Lib.hid hx
        have BW : Hid (Below w.heap.size w ((wr.alloc (.cells #[.string x.name, .bool x.sw, .int .i64 x.ports] 105)).alloc (.cells #[.string x.name, .bool x.sw, .int .i64 x.ports] 105))) :=
          ((HBW.out.trans (bel.mono (by omega))).alloc (by omega) _).alloc (by simp; omega) _
        clear hx AS AB HA HP hmem V
        go_wp2_with (go_at_call 78; refine (node_any x _).mono ?_; rintro r w' ⟨rfl, rfl⟩; rw [HX.out])
        go_ret
        exact ⟨by rw [FIN.out]; rfl, BW.out⟩
      | true =>
        have HX := Lib.hid hx
        have R : Hid (RelAll okNode ns (w.heap.size + 1) w1 (.int .i64 ((k + 1 : Nat) : Int)) ((wr.alloc (.cells #[.string x.name, .bool x.sw, .int .i64 x.ports] 105)).alloc (.cells #[.string x.name, .bool x.sw, .int .i64 x.ports] 105))) :=
          ⟨k + 1, by omega, rfl, by rw [AS.out, HA.out, hx]; rfl, (bel.alloc (by omega) _).alloc (by simp; omega) _⟩
        clear hx AS AB HA HP hmem V
        go_wp2_with (go_at_call 78; refine (node_any x _).mono ?_; rintro r w' ⟨rfl, rfl⟩; rw [HX.out])
        exact ⟨by simpa using R.out, by simp [intOf]; omega⟩
    · obtain rfl : k = ns.length := by omega
      rw [List.take_length] at HA
      have d0 : wr.cell? ⟨w.heap.size, 0, none⟩ = some (.slice An ns.length cn) := by rw [bel.cell (by show w.heap.size < _; omega)]; exact HB0.out
      have d1 : wr.cell? ⟨w.heap.size, 1, none⟩ = some (.slice Ac cs.length cc) := by rw [bel.cell (by show w.heap.size < _; omega)]; exact HB1.out
      have BW := Lib.hid (HBW.out.trans (bel.mono (by omega)))
      have bw : w.heap.size < wr.heap.size := by omega
      have D0 := Lib.hid d0
      have D1 := Lib.hid d1
      clear HB0 HB1 H1 HBW bel bs hsz hk hkr
      obtain ⟨w2, rfl⟩ : ∃ w2 : World, w2 = wr := ⟨_, rfl⟩
      go_wp2_with fail
      go_loopw [35] (fun i wr => RelAll (okPorts ns) cs w2.heap.size w2 i wr) (fun i _ => cs.length - (intOf i).toNat)
      case atStart => exact ⟨0, Nat.zero_le _, rfl, rfl, Below.refl _ _⟩
      case round =>
        clear d0 d1
        obtain ⟨k, hk, rfl, hall, belC⟩ := hrel
        have bc := belC.size
        have HC := Lib.hid hall
        clear hall
        have HPC := Lib.hid (HP.out.below (Nat.le_refl _) belC)
        have e0 : wr.cell? ⟨w.heap.size, 0, none⟩ = some (.slice An ns.length cn) := by rw [belC.cell (by exact bw)]; exact D0.out
        have e1 : wr.cell? ⟨w.heap.size, 1, none⟩ = some (.slice Ac cs.length cc) := by rw [belC.cell (by exact bw)]; exact D1.out
        have bwr : w.heap.size < wr.heap.size := by omega
        by_cases hkr : k < cs.length
        · obtain ⟨bb, off, ha, hbb, hmem, c0, c1, c2, c3, c4, c5⟩ := cable_at HPC.out.2 k hkr
          have AS := Lib.hid (all_snoc (okPorts ns) cb0 cs k hkr)
          have AB := Lib.hid (all_bad (okPorts ns) cb0 cs k hkr)
          generalize cs.getD k cb0 = x at *
          have HAn : Hid (IsPlan wr An (some ⟨bb, off, none⟩) ⟨ns, cs⟩) := by rw [← ha]; exact HPC.out
          subst ha
          obtain ⟨xa, xap, xb, xbp, xdl, xcp⟩ := x
          simp only at c0 c1 c2 c3 c4 c5
          clear hmem HPC
          obtain ⟨ob, hob⟩ : ∃ ob, Obj.cells #[Value.slice An ns.length cn, .slice (some ⟨bb, off, none⟩) cs.length cc] 25 = ob := ⟨_, rfl⟩
          have HOB := Lib.hid hob
          clear hob
          cases hx : hasPort ns xa xap with
          | false =>
            have FIN := Lib.hid (validP2 (p := ⟨ns, cs⟩) V.out HA.out (AB.out (by simp [okPorts, hx])))
            have HX := Lib.hid hx
            have BW2 : Hid (Below w.heap.size w ((wr.alloc (.cells #[.int .i64 xa, .int .i64 xap, .int .i64 xb, .int .i64 xbp, .int .i64 xdl, .int .i64 xcp] 73)).alloc ob)) :=
              ((BW.out.trans (belC.mono (by omega))).alloc (by omega) _).alloc (by simp; omega) _
            clear hx AS AB HA HC HP V
            go_wp2_with (go_at_call 79; refine (port_any2 ns cs An _ cn cc xa xap _ hl (HAn.out.alloc _) _ HX.out ob HOB.out).mono ?_; rintro r w' ⟨rfl, rfl⟩)
            go_ret
            exact ⟨by rw [FIN.out]; rfl, BW2.out⟩
          | true =>
            have HX := Lib.hid hx
            have BB : Hid (Below w2.heap.size w2 (((wr.alloc (.cells #[.int .i64 xa, .int .i64 xap, .int .i64 xb, .int .i64 xbp, .int .i64 xdl, .int .i64 xcp] 73)).alloc ob).alloc ob)) :=
              ((belC.alloc bc _).alloc (by simp; omega) _).alloc (by simp; omega) _
            cases hy : hasPort ns xb xbp with
            | false =>
              have FIN := Lib.hid (validP2 (p := ⟨ns, cs⟩) V.out HA.out (AB.out (by simp [okPorts, hy])))
              have HY := Lib.hid hy
              clear hx hy AS AB HA HC HP V
              go_wp2_with fail
              refine (port_any2 ns cs An _ cn cc xa xap _ hl (HAn.out.alloc _) _ HX.out ob HOB.out).mono ?_
              rintro r w' ⟨rfl, rfl⟩
              go_wp2_with fail
              refine (port_any2 ns cs An _ cn cc xb xbp _ hl ((HAn.out.alloc _).alloc _) _ HY.out ob HOB.out).mono ?_
              rintro r w' ⟨rfl, rfl⟩
              go_wp2_with fail
              go_ret
              exact ⟨by rw [FIN.out]; rfl, BW.out.trans (BB.out.mono (by omega))⟩
            | true =>
              have HY := Lib.hid hy
              have R : Hid (RelAll (okPorts ns) cs w2.heap.size w2 (.int .i64 ((k + 1 : Nat) : Int)) (((wr.alloc (.cells #[.int .i64 xa, .int .i64 xap, .int .i64 xb, .int .i64 xbp, .int .i64 xdl, .int .i64 xcp] 73)).alloc ob).alloc ob)) :=
                ⟨k + 1, by omega, rfl, by rw [AS.out, HC.out]; simp [okPorts, hx, hy], BB.out⟩
              clear hx hy AS AB HA HC HP V BB
              go_wp2_with fail
              refine (port_any2 ns cs An _ cn cc xa xap _ hl (HAn.out.alloc _) _ HX.out ob HOB.out).mono ?_
              rintro r w' ⟨rfl, rfl⟩
              go_wp2_with fail
              refine (port_any2 ns cs An _ cn cc xb xbp _ hl ((HAn.out.alloc _).alloc _) _ HY.out ob HOB.out).mono ?_
              rintro r w' ⟨rfl, rfl⟩
              go_wp2_with fail
              exact ⟨by simpa using R.out, by simp [intOf]; omega⟩
        · obtain rfl : k = cs.length := by omega
          rw [List.take_length] at HC
          have BW2 := Lib.hid (BW.out.trans (belC.mono (by omega)))
          clear BW D0 D1 HP belC
          cases hr : repeatsB ⟨ns, cs⟩ with
          | true =>
            have FIN := Lib.hid (validP8 (p := ⟨ns, cs⟩) V.out HA.out HC.out hr)
            have HR := Lib.hid hr
            clear hr V HA HC
            go_wp2_with fail
            refine (repeats_any ⟨ns, cs⟩ An Ac cn cc _ hl hl2 HW.out HPC.out).mono ?_
            rintro r w' ⟨rfl, bel3⟩
            rw [HR.out]
            go_wp2_with fail
            go_ret
            exact ⟨by rw [FIN.out]; rfl, BW2.out.trans (bel3.mono (by omega))⟩
          | false =>
            have HR := Lib.hid hr
            clear hr
            go_wp2_with fail
            refine (repeats_any ⟨ns, cs⟩ An Ac cn cc _ hl hl2 HW.out HPC.out).mono ?_
            rintro r w' ⟨rfl, bel3⟩
            rw [HR.out]
            have f0 : w'.cell? ⟨w.heap.size, 0, none⟩ = some (.slice An ns.length cn) := by rw [bel3.cell (by exact bwr)]; exact e0
            have f1 : w'.cell? ⟨w.heap.size, 1, none⟩ = some (.slice Ac cs.length cc) := by rw [bel3.cell (by exact bwr)]; exact e1
            have HP3 := Lib.hid (HPC.out.below (Nat.le_refl _) bel3)
            have BW3 := Lib.hid (BW2.out.trans (bel3.mono (by omega)))
            have bw3 : w.heap.size < w'.heap.size := by have := bel3.size; omega
            have F0 := Lib.hid f0
            have F1 := Lib.hid f1
            clear bel3 HPC BW2 e0 e1 bwr bc
            generalize w' = w3 at *
            go_wp2_with fail
            go_loopw [61] (fun i wr => RelAll (fun x : Cb => decide (x.a ≠ x.b)) cs w3.heap.size w3 i wr) (fun i _ => cs.length - (intOf i).toNat)
            case atStart => exact ⟨0, Nat.zero_le _, rfl, rfl, Below.refl _ _⟩
            case round =>
              clear f0 f1
              obtain ⟨k, hk, rfl, hall, belD⟩ := hrel
              have bd := belD.size
              have HD := Lib.hid hall
              clear hall
              have HPD := Lib.hid (HP3.out.below (Nat.le_refl _) belD)
              by_cases hkr : k < cs.length
              · obtain ⟨bb, off, ha, hbb, hmem, c0, c1, c2, c3, c4, c5⟩ := cable_at HPD.out.2 k hkr
                have AS := Lib.hid (all_snoc (fun x : Cb => decide (x.a ≠ x.b)) cb0 cs k hkr)
                have AB := Lib.hid (all_bad (fun x : Cb => decide (x.a ≠ x.b)) cb0 cs k hkr)
                generalize cs.getD k cb0 = x at *
                subst ha
                obtain ⟨xa, xap, xb, xbp, xdl, xcp⟩ := x
                simp only at c0 c1 c2 c3 c4 c5
                have BB : Hid (Below w3.heap.size w3 (wr.alloc (.cells #[.int .i64 xa, .int .i64 xap, .int .i64 xb, .int .i64 xbp, .int .i64 xdl, .int .i64 xcp] 73))) := belD.alloc bd _
                by_cases hab : xa = xb
                · have FIN := Lib.hid (validP12 (p := ⟨ns, cs⟩) V.out HA.out HC.out HR.out (AB.out (by simp [hab])))
                  have hq : (xa == xb) = true := by rw [hab]; simp
                  clear hmem AS AB HA HC HR V HD HPD hab
                  go_wp2_with fail
                  go_ret
                  exact ⟨by rw [FIN.out]; rfl, BW3.out.trans (BB.out.mono (by omega))⟩
                · have R : Hid (RelAll (fun x : Cb => decide (x.a ≠ x.b)) cs w3.heap.size w3 (.int .i64 ((k + 1 : Nat) : Int)) (wr.alloc (.cells #[.int .i64 xa, .int .i64 xap, .int .i64 xb, .int .i64 xbp, .int .i64 xdl, .int .i64 xcp] 73))) :=
                    ⟨k + 1, by omega, rfl, by rw [AS.out, HD.out]; simp [hab], BB.out⟩
                  have hq : (xa == xb) = false := by rw [beq_eq_false_iff_ne]; exact hab
                  clear hmem AS AB HA HC HR V HD HPD hab BB
                  go_wp2_with fail
                  exact ⟨by simpa using R.out, by simp [intOf]; omega⟩
              · obtain rfl : k = cs.length := by omega
                rw [List.take_length] at HD
                have g0 : wr.cell? ⟨w.heap.size, 0, none⟩ = some (.slice An ns.length cn) := by rw [belD.cell (by exact bw3)]; exact F0.out
                have g1 : wr.cell? ⟨w.heap.size, 1, none⟩ = some (.slice Ac cs.length cc) := by rw [belD.cell (by exact bw3)]; exact F1.out
                have BW4 := Lib.hid (BW3.out.trans (belD.mono (by omega)))
                have bw4 : w.heap.size < wr.heap.size := by omega
                clear BW3 F0 F1 HP3 belD
                obtain ⟨w4, rfl⟩ : ∃ w4 : World, w4 = wr := ⟨_, rfl⟩
                go_wp2_with fail
                go_loopw [74] (fun i wr => RelAll okForm cs w4.heap.size w4 i wr) (fun i _ => cs.length - (intOf i).toNat)
                case atStart => exact ⟨0, Nat.zero_le _, rfl, rfl, Below.refl _ _⟩
                case round =>
                  clear g0 g1
                  obtain ⟨k, hk, rfl, hall, belF⟩ := hrel
                  have bf := belF.size
                  have HF := Lib.hid hall
                  clear hall
                  have HPF := Lib.hid (HPD.out.below (Nat.le_refl _) belF)
                  by_cases hkr : k < cs.length
                  · obtain ⟨bb, off, ha, hbb, hmem, c0, c1, c2, c3, c4, c5⟩ := cable_at HPF.out.2 k hkr
                    have AS := Lib.hid (all_snoc okForm cb0 cs k hkr)
                    have AB := Lib.hid (all_bad okForm cb0 cs k hkr)
                    generalize cs.getD k cb0 = x at *
                    subst ha
                    obtain ⟨xa, xap, xb, xbp, xdl, xcp⟩ := x
                    simp only at c0 c1 c2 c3 c4 c5
                    have BB : Hid (Below w4.heap.size w4 (wr.alloc (.cells #[.int .i64 xa, .int .i64 xap, .int .i64 xb, .int .i64 xbp, .int .i64 xdl, .int .i64 xcp] 73))) := belF.alloc bf _
                    by_cases hok : 1 ≤ xdl ∧ xdl ≤ 100 ∧ 1 ≤ xcp ∧ xcp ≤ 1000
                    · have R : Hid (RelAll okForm cs w4.heap.size w4 (.int .i64 ((k + 1 : Nat) : Int)) (wr.alloc (.cells #[.int .i64 xa, .int .i64 xap, .int .i64 xb, .int .i64 xbp, .int .i64 xdl, .int .i64 xcp] 73))) :=
                        ⟨k + 1, by omega, rfl, by rw [AS.out, HF.out]; simp [okForm, hok], BB.out⟩
                      obtain ⟨q1, q2, q3, q4⟩ := hok
                      clear hmem AS AB HA HC HR HD V HF HPF HPD BB
                      go_wp2_with fail
                      exact ⟨by simpa using R.out, by simp [intOf]; omega⟩
                    · have FIN := Lib.hid (validP3 (p := ⟨ns, cs⟩) V.out HA.out HC.out HR.out HD.out (AB.out (by
                        simp only [okForm]; rw [Bool.eq_false_iff]; intro h; simp at h; exact hok ⟨h.1.1.1, h.1.1.2, h.1.2, h.2⟩)))
                      clear hmem AS AB HA HC HR HD V HF HPF HPD
                      rcases (by omega : xdl < 1 ∨ (1 ≤ xdl ∧ 100 < xdl) ∨ (1 ≤ xdl ∧ xdl ≤ 100 ∧ xcp < 1) ∨ (1 ≤ xdl ∧ xdl ≤ 100 ∧ 1 ≤ xcp ∧ 1000 < xcp)) with q1 | ⟨q1, q2⟩ | ⟨q1, q2, q3⟩ | ⟨q1, q2, q3, q4⟩ <;> clear hok
                      all_goals
                        go_wp2_with fail
                        go_ret
                        exact ⟨by rw [FIN.out]; rfl, BW4.out.trans (BB.out.mono (by omega))⟩
                  · obtain rfl : k = cs.length := by omega
                    rw [List.take_length] at HF
                    have FIN := Lib.hid (validP0 (p := ⟨ns, cs⟩) V.out HA.out HC.out HR.out HD.out HF.out)
                    have BW5 := Lib.hid (BW4.out.trans (belF.mono (by omega)))
                    clear HA HC HR HD V HF HPF HPD
                    go_wp2_with fail
                    go_ret
                    exact ⟨by rw [FIN.out]; rfl, BW5.out⟩
end Go.Proofs.Ytljojgpjgjfddaa
