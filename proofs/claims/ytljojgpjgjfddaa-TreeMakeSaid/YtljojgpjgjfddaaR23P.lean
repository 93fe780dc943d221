/- The contract of the reference's parent. -/
import Derived.Test.YtljojgpjgjfddaaR23A
namespace Go.Proofs.Ytljojgpjgjfddaa
open Go.RowKit Go.Maps
set_option linter.unusedVariables false
set_option linter.unusedSimpArgs false

theorem pOk_ref {ns : List Nd} {cs : List Cb} {lv : List Int} (hv : validP ⟨ns, cs⟩ = 0) {x : Cb} (hx : x ∈ cs) {v : Nat} (h0 : 0 < lv.getD v 0) : pOk lv v x = (endT x (v : Int) && (lvAt lv (otherV x (v : Int)) == lv.getD v 0 - 1)) := by
  have hab := valid_abF hv x hx
  obtain ⟨xa, xap, xb, xbp, xd, xc⟩ := x
  simp only at hab
  unfold pOk endT otherV
  simp only
  rw [decide_eq_true h0, Bool.true_and]
  by_cases h1 : xa = (v : Int)
  · have nb : ¬ xb = (v : Int) := fun e => hab (h1.trans e.symm)
    have e1 : (xb == (v : Int)) = false := by simpa using nb
    have e2 : (xa == (v : Int)) = true := by simpa using h1
    rw [if_pos h1, e1, e2]
    simp
  · have e2 : (xa == (v : Int)) = false := by simpa using h1
    rw [if_neg h1, e2]
    by_cases h2 : xb = (v : Int)
    · have e1 : (xb == (v : Int)) = true := by simpa using h2
      rw [if_pos h2, e1]; simp
    · have e1 : (xb == (v : Int)) = false := by simpa using h2
      rw [e1]; simp
theorem other_touch {ns : List Nd} {cs : List Cb} (hv : validP ⟨ns, cs⟩ = 0) {x : Cb} (hx : x ∈ cs) {u v : Nat} (ht : touchT x u v) : otherV x (u : Int) = v := by
  have hab := valid_abF hv x hx
  unfold otherV
  rcases ht with ⟨h1, h2⟩ | ⟨h1, h2⟩
  · rw [if_pos h1, h2]
  · rw [if_neg (fun e => hab (e.trans h1.symm)), if_pos h1, h2]
theorem parV_first {cs : List Cb} {lv : List Int} {v k : Nat} (hk : k < cs.length) (h : pOk lv v (cs.getD k cb0) = true) (hall : ∀ j, j < k → pOk lv v (cs.getD j cb0) = false) : parV cs lv v = (k : Int) := by
  unfold parV
  have : (List.range cs.length).find? (fun i => pOk lv v (cs.getD i cb0)) = some k := by
    rw [List.find?_range_eq_some]
    exact ⟨h, List.mem_range.2 hk, fun j hj => by rw [hall j hj]; rfl⟩
  rw [this]
theorem endT_other {x : Cb} {v : Nat} (he : endT x (v : Int) = true) (h : otherV x (v : Int) = -1) : x.a = -1 ∨ x.b = -1 := by
  unfold otherV at h
  unfold endT at he
  simp only [Bool.or_eq_true, beq_iff_eq] at he
  split at h
  · exact .inr h
  · split at h
    · exact .inl h
    · rcases he with e | e <;> contradiction
def RelP23 (cs : List Cb) (lv : List Int) (v : Nat) (w1 : World) (i : Value) (wr : World) : Prop := ∃ k : Nat, k ≤ cs.length ∧ i = .int .i64 k ∧ (∀ j, j < k → pOk lv v (cs.getD j cb0) = false) ∧ Below w1.heap.size w1 wr
set_option maxRecDepth 100000 in
set_option maxHeartbeats 4000000 in
theorem par23_any (ns : List Nd) (cs : List Cb) (lv : List Int) (v : Nat) (An Ac Al : Option Addr) (cn cc cl : Nat) (w : World) (T : TOk ns cs lv) (hvn : v < ns.length) (h0 : 0 < lv.getD v 0) (h : IsPlan w An Ac ⟨ns, cs⟩) (h2 : IsRec 1 cI 0 w Al lv.length lv) :
    Calls Try.prog 101 #[.agg #[.slice An ns.length cn, .slice Ac cs.length cc], .slice Al lv.length cl, .int .i64 v] w fun e w' => e = .returned (.int .i64 (parV cs lv v)) ∧ Below w.heap.size w w' := by
  obtain ⟨n16, c32⟩ := valid_sizes T.hv
  obtain ⟨w1, hw1⟩ : ∃ w1 : World, w.alloc (.cells #[.slice An ns.length cn, .slice Ac cs.length cc] 25) = w1 := ⟨_, rfl⟩
  have s0 : w1.cell? ⟨w.heap.size, 0, none⟩ = some (.slice An ns.length cn) := by rw [← hw1]; simp [go_sem]
  have s1 : w1.cell? ⟨w.heap.size, 1, none⟩ = some (.slice Ac cs.length cc) := by rw [← hw1]; simp [go_sem]
  have sz1 : w.heap.size < w1.heap.size := by rw [← hw1]; simp
  have BW0 : Hid (Below w.heap.size w w1) := by rw [Hid, ← hw1]; exact (Below.refl _ _).alloc (Nat.le_refl _) _
  have H1 := Lib.hid (h.below (Nat.le_refl _) BW0.out)
  have L1 := Lib.hid (h2.below (Nat.le_refl _) BW0.out)
  have HW1 := Lib.hid hw1
  have HT := Lib.hid T
  have hll := Lib.hid T.len
  have hlt := T.lt v hvn
  obtain ⟨ip, hip, hpp, _, _, _⟩ := T.up hvn h0
  have EXI : Hid (∃ j : Nat, j < cs.length ∧ pOk lv v (cs.getD j cb0) = true) := ⟨ip, hip, (parV_spec hpp).2⟩
  obtain ⟨bv, ov, hal, hbv, hmv, ev⟩ := int_at L1.out v (by have := hll.out; omega)
  have PR : Hid (∀ x ∈ cs, pOk lv v x = (endT x (v : Int) && (lvAt lv (otherV x (v : Int)) == lv.getD v 0 - 1))) := fun x hx => pOk_ref T.hv hx h0
  have KC : Hid (∀ w', Below w1.heap.size w1 w' → (w'.cell? ⟨w.heap.size, 0, none⟩ = some (.slice An ns.length cn) ∧ w'.cell? ⟨w.heap.size, 1, none⟩ = some (.slice Ac cs.length cc) ∧ w'.cell? ⟨bv, ov + v, none⟩ = some (.int .i64 (lv.getD v 0))) ∧ Below w.heap.size w w' ∧ IsRec 6 cC cb0 w' Ac cs.length cs) :=
    fun w' hb => ⟨⟨(hb.cell (by exact sz1)).trans s0, (hb.cell (by exact sz1)).trans s1, (hb.cell (by exact hbv)).trans ev⟩, BW0.out.trans (hb.mono (by omega)), (H1.out.below (Nat.le_refl _) hb).2⟩
  have LM : Hid (∀ m, m < ns.length → ∀ w', Below w1.heap.size w1 w' → w'.cell? ⟨bv, ov + m, none⟩ = some (.int .i64 (lv.getD m 0))) := fun m hm w' hb => by
    obtain ⟨b, o, ha, _, _, e⟩ := int_at (L1.out.below (Nat.le_refl _) hb) m (by have := hll.out; omega)
    rw [hal] at ha
    injection ha with ha
    injection ha with e1 e2
    subst e1
    subst e2
    exact e
  have vl : (v : Int) < (lv.length : Int) := by have := hll.out; omega
  have hl16 : lv.length ≤ 16 := by have := hll.out; omega
  generalize lv.getD v 0 = xv at *
  have xw : IntKind.i64.wrap (xv - 1) = xv - 1 := IntWalk.i64_in _ (by omega)
  obtain ⟨lx1, lx2⟩ := hlt
  subst hal
  clear h h2 hw1 hmv ev T hip hpp
  go_enter Try.func101, Try.ntmps101
  go_wp2_with fail
  rw [HW1.out]
  go_wp2_with fail
  go_loopw [7] (fun i wr => RelP23 cs lv v w1 i wr) (fun i _ => cs.length - (RowKit.intOf i).toNat)
  case atStart => exact ⟨0, Nat.zero_le _, rfl, fun j hj => by omega, Below.refl _ _⟩
  case round =>
    clear s0 s1
    obtain ⟨k, hk, rfl, hall, bel⟩ := hrel
    have HA := Lib.hid hall
    have BE := Lib.hid bel
    obtain ⟨⟨c0, c1, c2⟩, bw, cr⟩ := KC.out wr bel
    have BW := Lib.hid bw
    clear hall bw
    by_cases hkr : k < cs.length
    · have hm : cs.getD k cb0 ∈ cs := by simp [List.getD, hkr]
      have PO := Lib.hid (PR.out _ hm)
      have AT := Lib.hid (fun (w' : World) (hb : Below w1.heap.size w1 w') => at23_any ns cs An Ac cn cc k (v : Int) w' (by omega) hkr (KC.out w' hb).2.2)
      have OT := Lib.hid (fun (w' : World) (hb : Below w1.heap.size w1 w') => Other17_any cs An Ac ns.length cn cc k (v : Int) w' (by omega) (KC.out w' hb).2.2 hkr)
      have RNG := otherV_range HT.out.hv hm (v : Int)
      have FI : Hid (pOk lv v (cs.getD k cb0) = true → parV cs lv v = (k : Int)) := fun h => parV_first hkr h HA.out
      have NX : Hid (pOk lv v (cs.getD k cb0) = false → ∀ w', Below w1.heap.size w1 w' → RelP23 cs lv v w1 (.int .i64 ((k + 1 : Nat) : Int)) w') := fun h w' hb => ⟨k + 1, by omega, rfl, fun j hj => by
        by_cases e : j = k
        · rw [e]; exact h
        · exact HA.out j (by omega), hb⟩
      have ki : (k : Int) < (cs.length : Int) := by omega
      have xab := cab_node HT.out.hv hm
      generalize cs.getD k cb0 = x at *
      obtain ⟨⟨xa0, xa1⟩, xb0, xb1⟩ := xab
      clear hm
      cases he : endT x (v : Int) with
      | false =>
        rw [he] at AT PO
        have R := Lib.hid (NX.out PO.out)
        clear OT RNG FI NX PO
        go_wp2_with fail
        -- HELD
        refine wp_region_held_drew (S := (fun w' => w'.cell? ⟨w.heap.size, 0, none⟩ = some (.slice An ns.length cn) ∧ w'.cell? ⟨w.heap.size, 1, none⟩ = some (.slice Ac cs.length cc) ∧ w'.cell? ⟨bv, ov + v, none⟩ = some (.int .i64 xv))) (by kernel_rfl) ⟨c0, c1, c2⟩ (fun hHeld => ?_)
        refine wpAnyH_take (i := 0) (v := .agg #[.slice An ns.length cn, .slice Ac cs.length cc]) rfl (by kernel_rfl) (by kernel_rfl) (by kernel_rfl) (fun _ _ _ h => h) (Or.inl ⟨by rfl, fun w' hSw => by (obtain ⟨x0, x1, x2⟩ := hSw; go_simp)⟩) hHeld ?_
        change wpAnyH Try.prog _ _ _ _ _ _ { tmps := #[_, _, _, _, _, _, _, _, _, _, _, _, _, _, _, .agg #[.slice An ns.length cn, .slice Ac cs.length cc], _, _, _, _, _, _, _, _, _, _, _, _, _, _, _, _, _, _, _], defers := [] } _
        refine wpAnyH_take (i := 1) (v := .int .i64 (k : Int)) rfl (by kernel_rfl) (by kernel_rfl) (by kernel_rfl) (fun _ _ _ h => h) (Or.inl ⟨by rfl, fun w' hSw => by (obtain ⟨x0, x1, x2⟩ := hSw; go_simp)⟩) hHeld ?_
        change wpAnyH Try.prog _ _ _ _ _ _ { tmps := #[_, _, _, _, _, _, _, _, _, _, _, _, _, _, _, .agg #[.slice An ns.length cn, .slice Ac cs.length cc], .int .i64 (k : Int), _, _, _, _, _, _, _, _, _, _, _, _, _, _, _, _, _, _], defers := [] } _
        refine wpAnyH_take (i := 2) (v := .int .i64 (v : Int)) rfl (by kernel_rfl) (by kernel_rfl) (by kernel_rfl) (fun _ _ _ h => h) (Or.inl ⟨by rfl, fun w' hSw => by (obtain ⟨x0, x1, x2⟩ := hSw; go_simp)⟩) hHeld ?_
        change wpAnyH Try.prog _ _ _ _ _ _ { tmps := #[_, _, _, _, _, _, _, _, _, _, _, _, _, _, _, .agg #[.slice An ns.length cn, .slice Ac cs.length cc], .int .i64 (k : Int), .int .i64 (v : Int), _, _, _, _, _, _, _, _, _, _, _, _, _, _, _, _, _], defers := [] } _
        refine wpAnyH_ready (rs := [3]) (by kernel_rfl) (by simp) ?_
        refine AllReadyH.cons rfl (fun K hK => ?_) AllReadyH.nil
        go_simp
        refine (AT.out _ (by repeat (first | exact BE.out | refine Below.drew ?_))).mono ?_
        rintro e w2 ⟨rfl, bel2⟩
        have BS : Hid (Below w1.heap.size w1 w2) := BE.out.drew.trans (bel2.mono BE.out.size)
        clear bel2
        refine hK.out _ _ ((KC.out _ BS.out).1) (fun hHeld => ?_)
        clear hK
        change wpAnyH Try.prog _ _ _ _ _ _ { tmps := #[_, _, _, _, _, _, _, _, _, _, _, _, _, _, _, .agg #[.slice An ns.length cn, .slice Ac cs.length cc], .int .i64 (k : Int), .int .i64 (v : Int), .bool false, _, _, _, _, _, _, _, _, _, _, _, _, _, _, _, _], defers := [] } _
        refine wpAnyH_take (i := 4) (v := .bool false) rfl (by kernel_rfl) (by kernel_rfl) (by kernel_rfl) (fun _ _ _ h => h) (Or.inl ⟨by rfl, fun w' hSw => by (obtain ⟨x0, x1, x2⟩ := hSw; go_simp)⟩) hHeld ?_
        change wpAnyH Try.prog _ _ _ _ _ _ { tmps := #[_, _, _, _, _, _, _, _, _, _, _, _, _, _, _, .agg #[.slice An ns.length cn, .slice Ac cs.length cc], .int .i64 (k : Int), .int .i64 (v : Int), .bool false, .bool false, _, _, _, _, _, _, _, _, _, _, _, _, _, _, _], defers := [] } _
        refine wpAnyH_take (i := 5) (v := undef) rfl (by kernel_rfl) (by kernel_rfl) (by kernel_rfl) (fun _ _ _ h => h) (Or.inr ⟨by rfl, rfl⟩) hHeld ?_
        change wpAnyH Try.prog _ _ _ _ _ _ { tmps := #[_, _, _, _, _, _, _, _, _, _, _, _, _, _, _, .agg #[.slice An ns.length cn, .slice Ac cs.length cc], .int .i64 (k : Int), .int .i64 (v : Int), .bool false, .bool false, undef, _, _, _, _, _, _, _, _, _, _, _, _, _, _], defers := [] } _
        refine wpAnyH_take (i := 6) (v := undef) rfl (by kernel_rfl) (by kernel_rfl) (by kernel_rfl) (fun _ _ _ h => h) (Or.inr ⟨by rfl, rfl⟩) hHeld ?_
        change wpAnyH Try.prog _ _ _ _ _ _ { tmps := #[_, _, _, _, _, _, _, _, _, _, _, _, _, _, _, .agg #[.slice An ns.length cn, .slice Ac cs.length cc], .int .i64 (k : Int), .int .i64 (v : Int), .bool false, .bool false, undef, undef, _, _, _, _, _, _, _, _, _, _, _, _, _], defers := [] } _
        refine wpAnyH_take (i := 7) (v := undef) rfl (by kernel_rfl) (by kernel_rfl) (by kernel_rfl) (fun _ _ _ h => h) (Or.inr ⟨by rfl, rfl⟩) hHeld ?_
        change wpAnyH Try.prog _ _ _ _ _ _ { tmps := #[_, _, _, _, _, _, _, _, _, _, _, _, _, _, _, .agg #[.slice An ns.length cn, .slice Ac cs.length cc], .int .i64 (k : Int), .int .i64 (v : Int), .bool false, .bool false, undef, undef, undef, _, _, _, _, _, _, _, _, _, _, _, _], defers := [] } _
        refine wpAnyH_take (i := 8) (v := undef) rfl (by kernel_rfl) (by kernel_rfl) (by kernel_rfl) (fun _ _ _ h => h) (Or.inr ⟨by rfl, rfl⟩) hHeld ?_
        change wpAnyH Try.prog _ _ _ _ _ _ { tmps := #[_, _, _, _, _, _, _, _, _, _, _, _, _, _, _, .agg #[.slice An ns.length cn, .slice Ac cs.length cc], .int .i64 (k : Int), .int .i64 (v : Int), .bool false, .bool false, undef, undef, undef, undef, _, _, _, _, _, _, _, _, _, _, _], defers := [] } _
        refine wpAnyH_take (i := 9) (v := undef) rfl (by kernel_rfl) (by kernel_rfl) (by kernel_rfl) (fun _ _ _ h => h) (Or.inr ⟨by rfl, rfl⟩) hHeld ?_
        change wpAnyH Try.prog _ _ _ _ _ _ { tmps := #[_, _, _, _, _, _, _, _, _, _, _, _, _, _, _, .agg #[.slice An ns.length cn, .slice Ac cs.length cc], .int .i64 (k : Int), .int .i64 (v : Int), .bool false, .bool false, undef, undef, undef, undef, undef, _, _, _, _, _, _, _, _, _, _], defers := [] } _
        refine wpAnyH_take (i := 10) (v := undef) rfl (by kernel_rfl) (by kernel_rfl) (by kernel_rfl) (fun _ _ _ h => h) (Or.inr ⟨by rfl, rfl⟩) hHeld ?_
        change wpAnyH Try.prog _ _ _ _ _ _ { tmps := #[_, _, _, _, _, _, _, _, _, _, _, _, _, _, _, .agg #[.slice An ns.length cn, .slice Ac cs.length cc], .int .i64 (k : Int), .int .i64 (v : Int), .bool false, .bool false, undef, undef, undef, undef, undef, undef, _, _, _, _, _, _, _, _, _], defers := [] } _
        refine wpAnyH_take (i := 11) (v := undef) rfl (by kernel_rfl) (by kernel_rfl) (by kernel_rfl) (fun _ _ _ h => h) (Or.inr ⟨by rfl, rfl⟩) hHeld ?_
        change wpAnyH Try.prog _ _ _ _ _ _ { tmps := #[_, _, _, _, _, _, _, _, _, _, _, _, _, _, _, .agg #[.slice An ns.length cn, .slice Ac cs.length cc], .int .i64 (k : Int), .int .i64 (v : Int), .bool false, .bool false, undef, undef, undef, undef, undef, undef, undef, _, _, _, _, _, _, _, _], defers := [] } _
        refine wpAnyH_take (i := 12) (v := undef) rfl (by kernel_rfl) (by kernel_rfl) (by kernel_rfl) (fun _ _ _ h => h) (Or.inr ⟨by rfl, rfl⟩) hHeld ?_
        change wpAnyH Try.prog _ _ _ _ _ _ { tmps := #[_, _, _, _, _, _, _, _, _, _, _, _, _, _, _, .agg #[.slice An ns.length cn, .slice Ac cs.length cc], .int .i64 (k : Int), .int .i64 (v : Int), .bool false, .bool false, undef, undef, undef, undef, undef, undef, undef, undef, _, _, _, _, _, _, _], defers := [] } _
        refine wpAnyH_take (i := 13) (v := undef) rfl (by kernel_rfl) (by kernel_rfl) (by kernel_rfl) (fun _ _ _ h => h) (Or.inr ⟨by rfl, rfl⟩) hHeld ?_
        change wpAnyH Try.prog _ _ _ _ _ _ { tmps := #[_, _, _, _, _, _, _, _, _, _, _, _, _, _, _, .agg #[.slice An ns.length cn, .slice Ac cs.length cc], .int .i64 (k : Int), .int .i64 (v : Int), .bool false, .bool false, undef, undef, undef, undef, undef, undef, undef, undef, undef, _, _, _, _, _, _], defers := [] } _
        refine wpAnyH_take (i := 14) (v := undef) rfl (by kernel_rfl) (by kernel_rfl) (by kernel_rfl) (fun _ _ _ h => h) (Or.inr ⟨by rfl, rfl⟩) hHeld ?_
        change wpAnyH Try.prog _ _ _ _ _ _ { tmps := #[_, _, _, _, _, _, _, _, _, _, _, _, _, _, _, .agg #[.slice An ns.length cn, .slice Ac cs.length cc], .int .i64 (k : Int), .int .i64 (v : Int), .bool false, .bool false, undef, undef, undef, undef, undef, undef, undef, undef, undef, undef, _, _, _, _, _], defers := [] } _
        refine wpAnyH_take (i := 15) (v := undef) rfl (by kernel_rfl) (by kernel_rfl) (by kernel_rfl) (fun _ _ _ h => h) (Or.inr ⟨by rfl, rfl⟩) hHeld ?_
        change wpAnyH Try.prog _ _ _ _ _ _ { tmps := #[_, _, _, _, _, _, _, _, _, _, _, _, _, _, _, .agg #[.slice An ns.length cn, .slice Ac cs.length cc], .int .i64 (k : Int), .int .i64 (v : Int), .bool false, .bool false, undef, undef, undef, undef, undef, undef, undef, undef, undef, undef, undef, _, _, _, _], defers := [] } _
        refine wpAnyH_take (i := 16) (v := undef) rfl (by kernel_rfl) (by kernel_rfl) (by kernel_rfl) (fun _ _ _ h => h) (Or.inr ⟨by rfl, rfl⟩) hHeld ?_
        change wpAnyH Try.prog _ _ _ _ _ _ { tmps := #[_, _, _, _, _, _, _, _, _, _, _, _, _, _, _, .agg #[.slice An ns.length cn, .slice Ac cs.length cc], .int .i64 (k : Int), .int .i64 (v : Int), .bool false, .bool false, undef, undef, undef, undef, undef, undef, undef, undef, undef, undef, undef, undef, _, _, _], defers := [] } _
        refine wpAnyH_take (i := 17) (v := undef) rfl (by kernel_rfl) (by kernel_rfl) (by kernel_rfl) (fun _ _ _ h => h) (Or.inr ⟨by rfl, rfl⟩) hHeld ?_
        change wpAnyH Try.prog _ _ _ _ _ _ { tmps := #[_, _, _, _, _, _, _, _, _, _, _, _, _, _, _, .agg #[.slice An ns.length cn, .slice Ac cs.length cc], .int .i64 (k : Int), .int .i64 (v : Int), .bool false, .bool false, undef, undef, undef, undef, undef, undef, undef, undef, undef, undef, undef, undef, undef, _, _], defers := [] } _
        refine wpAnyH_take (i := 18) (v := .bool false) rfl (by kernel_rfl) (by kernel_rfl) (by kernel_rfl) (fun _ _ _ h => h) (Or.inl ⟨by rfl, fun w' hSw => by (obtain ⟨x0, x1, x2⟩ := hSw; go_simp)⟩) hHeld ?_
        change wpAnyH Try.prog _ _ _ _ _ _ { tmps := #[_, _, _, _, _, _, _, _, _, _, _, _, _, _, _, .agg #[.slice An ns.length cn, .slice Ac cs.length cc], .int .i64 (k : Int), .int .i64 (v : Int), .bool false, .bool false, undef, undef, undef, undef, undef, undef, undef, undef, undef, undef, undef, undef, undef, .bool false, _], defers := [] } _
        refine wpAnyH_done (by kernel_rfl) ?_ _
        -- END HELD
        go_wp2_with fail
        exact ⟨by simpa using R.out _ BS.out, by simp [RowKit.intOf]; omega⟩
      | true =>
        rw [he] at AT PO
        rw [Bool.true_and] at PO
        have hox : ∃ m : Nat, otherV x (v : Int) = m ∧ m < ns.length := by
          rcases RNG with h | h
          · rcases endT_other he h with e | e <;> omega
          · exact h
        obtain ⟨m, hom, hmn⟩ := hox
        rw [hom] at OT PO
        have PO2 : Hid (pOk lv v x = (lv.getD m 0 == xv - 1)) := by rw [Hid, PO.out]; unfold lvAt; rw [Int.toNat_natCast]
        have LMm := Lib.hid (LM.out m hmn)
        generalize lv.getD m 0 = z at *
        have cm := LMm.out wr bel
        have ml : (m : Int) < (lv.length : Int) := by have := hll.out; omega
        have m0 : (0 : Int) ≤ (m : Int) := by omega
        have KD : Hid (∀ w', Below w1.heap.size w1 w' → w'.cell? ⟨w.heap.size, 0, none⟩ = some (.slice An ns.length cn) ∧ w'.cell? ⟨w.heap.size, 1, none⟩ = some (.slice Ac cs.length cc) ∧ w'.cell? ⟨bv, ov + v, none⟩ = some (.int .i64 xv) ∧ w'.cell? ⟨bv, ov + m, none⟩ = some (.int .i64 z)) := fun w' hb => ⟨(KC.out w' hb).1.1, (KC.out w' hb).1.2.1, (KC.out w' hb).1.2.2, LMm.out w' hb⟩
        have BKW := Lib.hid (fun w' (hb : Below w1.heap.size w1 w') => (KC.out w' hb).2.1)
        clear RNG hom PO LM LMm KC H1 L1 HW1 HT PR hll HA BW0 cr EXI
        cases hz : z == xv - 1
        all_goals
          rw [hz] at PO2
          go_wp2_with fail
          go_region_held3 (fun w' => w'.cell? ⟨w.heap.size, 0, none⟩ = some (.slice An ns.length cn) ∧ w'.cell? ⟨w.heap.size, 1, none⟩ = some (.slice Ac cs.length cc) ∧ w'.cell? ⟨bv, ov + v, none⟩ = some (.int .i64 xv) ∧ w'.cell? ⟨bv, ov + m, none⟩ = some (.int .i64 z))
            (first | exact ⟨c0, c1, c2, cm⟩ | exact KD.out _ BS.out)
            (first
              | (go_at_call 129; refine (AT.out _ (by repeat (first | exact BE.out | refine Below.drew ?_))).mono ?_; rintro e w2 ⟨rfl, bel2⟩; have BS : Hid (Below w1.heap.size w1 w2) := BE.out.drew.trans (bel2.mono BE.out.size); clear bel2)
              | (go_at_call 66; refine (OT.out _ (by repeat (first | exact BS.out | refine Below.drew ?_))).mono ?_; rintro e w3 ⟨rfl, bel3⟩; have BS2 : Hid (Below w1.heap.size w1 w3) := BS.out.trans (bel3.mono BS.out.size); clear BS; have BS := BS2; clear bel3 BS2))
          all_goals
            first
              | (have R := Lib.hid (NX.out PO2.out)
                 clear FI NX
                 go_wp2_with fail
                 exact ⟨by simpa using R.out _ BS.out, by simp [RowKit.intOf]; omega⟩)
              | (have F := Lib.hid (FI.out PO2.out)
                 clear FI NX
                 go_wp2_with fail
                 go_ret
                 exact ⟨by rw [F.out]; rfl, BKW.out _ BS.out⟩)
    · exact absurd EXI.out (by
        rintro ⟨j, hj, hp⟩
        rw [HA.out j (by omega)] at hp
        cases hp)
end Go.Proofs.Ytljojgpjgjfddaa
