/- The contracts of the reference's Above, Step and Nodes of updown, at walks over cables that are there. -/
import Derived.Test.YtljojgpjgjfddaaGreatRTA
namespace Go.Proofs.YtljojgpjgjfddaaGreat
open Go.RowKit Go.Maps
set_option linter.unusedVariables false
set_option linter.unusedSimpArgs false

set_option maxRecDepth 100000 in
set_option maxHeartbeats 4000000 in
theorem above17n_any (lv : List Int) (Al : Option Addr) (cl i j : Nat) (w : World) (hl : lv.length ≤ 1000000) (h : IsRec 1 cI 0 w Al lv.length lv) (hi : i < lv.length) (hj : j < lv.length) (hneg : lv.getD i 0 < 0 ∨ lv.getD j 0 < 0) :
    Calls Tryz.prog 140 #[.slice Al lv.length cl, .int .i64 i, .int .i64 j] w fun e w' => e = .returned (.bool (aboveB lv i j)) ∧ Below w.heap.size w w' := by
  obtain ⟨b1, o1, ha1, hb1, hm1, e1⟩ := int_at h i hi
  obtain ⟨b2, o2, ha2, hb2, hm2, e2⟩ := int_at h j hj
  rw [ha1] at ha2
  injection ha2 with ha2
  injection ha2 with ha3 ha4
  subst ha3
  subst ha4
  have i1 : (i : Int) < (lv.length : Int) := by omega
  have j1 : (j : Int) < (lv.length : Int) := by omega
  have i0 : (0 : Int) ≤ (i : Int) := by omega
  have j0 : (0 : Int) ≤ (j : Int) := by omega
  have F : Hid (aboveB lv i j = false) := by
    rw [Hid]; unfold aboveB hasB lvAt
    rw [Int.toNat_natCast, Int.toNat_natCast, decide_eq_true i0, decide_eq_true j0, decide_eq_true i1, decide_eq_true j1]
    rcases hneg with q | q
    · rw [decide_eq_false (show ¬ 0 ≤ lv.getD i 0 by omega)]; rfl
    · rw [decide_eq_false (show ¬ 0 ≤ lv.getD j 0 by omega)]; simp
  generalize lv.getD i 0 = x at *
  generalize lv.getD j 0 = y at *
  subst ha1
  clear hm1 hm2 h
  by_cases q1 : x < 0
  · clear hneg
    go_enter Tryz.func140, Tryz.ntmps140
    go_wp2_with fail
    go_ret
    exact ⟨by rw [F.out]; rfl, Below.refl _ _⟩
  · have q2 : y < 0 := by omega
    clear hneg
    go_enter Tryz.func140, Tryz.ntmps140
    go_wp2_with fail
    go_ret
    exact ⟨by rw [F.out]; rfl, Below.refl _ _⟩
theorem above17a_any (lv : List Int) (Al : Option Addr) (cl i j : Nat) (w : World) (hl : lv.length ≤ 1000000) (h : IsRec 1 cI 0 w Al lv.length lv) (hi : i < lv.length) (hj : j < lv.length) :
    Calls Tryz.prog 140 #[.slice Al lv.length cl, .int .i64 i, .int .i64 j] w fun e w' => e = .returned (.bool (aboveB lv i j)) ∧ Below w.heap.size w w' := by
  by_cases q1 : 0 ≤ lv.getD i 0
  · by_cases q2 : 0 ≤ lv.getD j 0
    · exact above17_any lv Al cl i j w hl h hi hj q1 q2
    · exact above17n_any lv Al cl i j w hl h hi hj (.inr (by omega))
  · exact above17n_any lv Al cl i j w hl h hi hj (.inl (by omega))
/-- Where a step leads: 0 there is no level, 1 upward, 2 downward. -/
def stV (lv : List Int) (u v : Nat) : Int := if lv.getD v 0 < 0 then 0 else if upB lv u v then 1 else 2
set_option maxHeartbeats 1000000 in
theorem step18_any (lv : List Int) (Al : Option Addr) (cl u v : Nat) (w : World) (hl : lv.length ≤ 1000000) (h : IsRec 1 cI 0 w Al lv.length lv) (hu : u < lv.length) (hv : v < lv.length) (vu : 0 ≤ lv.getD u 0) (hne : u ≠ v) :
    Calls Tryz.prog 111 #[.slice Al lv.length cl, .int .i64 u, .int .i64 v] w fun e w' => e = .returned (.int .i64 (stV lv u v)) ∧ Below w.heap.size w w' := by
  have C1 := Lib.hid (above17a_any lv Al cl v u w hl h hv hu)
  have C2 := Lib.hid (fun (w' : World) (hb : Below w.heap.size w w') => above17a_any lv Al cl u v w' hl (h.below (Nat.le_refl _) hb) hu hv)
  have E1 : Hid (lv.getD v 0 < 0 → aboveB lv (v : Int) (u : Int) = false ∧ aboveB lv (u : Int) (v : Int) = false ∧ stV lv u v = 0) := fun q => by
    refine ⟨?_, ?_, by unfold stV; rw [if_pos q]⟩
    · cases hq : aboveB lv (v : Int) (u : Int) with
      | false => rfl
      | true => have := above_iff.1 hq; omega
    · cases hq : aboveB lv (u : Int) (v : Int) with
      | false => rfl
      | true => have := above_iff.1 hq; omega
  have E2 : Hid (¬ lv.getD v 0 < 0 → aboveB lv (v : Int) (u : Int) = true → stV lv u v = 1) := fun q q2 => by
    unfold stV upB; rw [if_neg q, if_pos q2]
  have E3 : Hid (¬ lv.getD v 0 < 0 → aboveB lv (v : Int) (u : Int) = false → aboveB lv (u : Int) (v : Int) = true ∧ stV lv u v = 2) := fun q q2 => by
    refine ⟨?_, by unfold stV upB; rw [if_neg q, q2]; rfl⟩
    rw [above_iff]
    refine ⟨hu, hv, vu, by omega, ?_⟩
    have h3 : ¬ (v < lv.length ∧ u < lv.length ∧ 0 ≤ lv.getD v 0 ∧ 0 ≤ lv.getD u 0 ∧ (lv.getD v 0 < lv.getD u 0 ∨ (lv.getD v 0 = lv.getD u 0 ∧ v < u))) := fun q3 => by
      rw [above_iff.2 q3] at q2; cases q2
    omega
  clear h
  by_cases q : lv.getD v 0 < 0
  · obtain ⟨a1, a2, a3⟩ := E1.out q
    have F := Lib.hid a3
    rw [a1] at C1
    have C3 : Hid (∀ (w' : World) (hb : Below w.heap.size w w'), Calls Tryz.prog 140 #[.slice Al lv.length cl, .int .i64 u, .int .i64 v] w' fun e w'' => e = .returned (.bool false) ∧ Below w'.heap.size w' w'') := fun w' hb => by rw [← a2]; exact C2.out w' hb
    clear E1 E2 E3 C2 a1 a2 a3 q vu
    go_enter Tryz.func111, Tryz.ntmps111
    go_wp2_with fail
    refine C1.out.mono ?_
    rintro e w2 ⟨rfl, bel⟩
    have B2 := Lib.hid bel
    clear bel C1
    go_wp2_with fail
    refine (C3.out w2 B2.out).mono ?_
    rintro e w3 ⟨rfl, bel⟩
    have B3 : Hid (Below w.heap.size w w3) := B2.out.trans (bel.mono B2.out.size)
    clear bel C3
    go_wp2_with fail
    go_ret
    exact ⟨by rw [F.out]; rfl, B3.out⟩
  · cases hq : aboveB lv (v : Int) (u : Int) with
    | true =>
      have F := Lib.hid (E2.out q hq)
      rw [hq] at C1
      clear E1 E2 E3 C2 q vu hq
      go_enter Tryz.func111, Tryz.ntmps111
      go_wp2_with fail
      refine C1.out.mono ?_
      rintro e w2 ⟨rfl, bel⟩
      have B2 := Lib.hid bel
      clear bel C1
      go_wp2_with fail
      go_ret
      exact ⟨by rw [F.out]; rfl, B2.out⟩
    | false =>
      obtain ⟨a2, a3⟩ := E3.out q hq
      have F := Lib.hid a3
      rw [hq] at C1
      have C3 : Hid (∀ (w' : World) (hb : Below w.heap.size w w'), Calls Tryz.prog 140 #[.slice Al lv.length cl, .int .i64 u, .int .i64 v] w' fun e w'' => e = .returned (.bool true) ∧ Below w'.heap.size w' w'') := fun w' hb => by rw [← a2]; exact C2.out w' hb
      clear E1 E2 E3 C2 a2 a3 q vu hq
      go_enter Tryz.func111, Tryz.ntmps111
      go_wp2_with fail
      refine C1.out.mono ?_
      rintro e w2 ⟨rfl, bel⟩
      have B2 := Lib.hid bel
      clear bel C1
      go_wp2_with fail
      refine (C3.out w2 B2.out).mono ?_
      rintro e w3 ⟨rfl, bel⟩
      have B3 : Hid (Below w.heap.size w w3) := B2.out.trans (bel.mono B2.out.size)
      clear bel C3
      go_wp2_with fail
      go_ret
      exact ⟨by rw [F.out]; rfl, B3.out⟩
set_option maxRecDepth 100000 in
set_option maxHeartbeats 4000000 in
theorem nodes18_any (ns : List Nd) (cs : List Cb) (s v : Nat) (W : List (Nat × Int)) (An Ac Ap : Option Addr) (cn cc cp : Nat) (w : World) (hv : validP ⟨ns, cs⟩ = 0) (hW : WkOk ns cs s W v) (hWl : W.length ≤ 1000) (h : IsPlan w An Ac ⟨ns, cs⟩) (h2 : IsRec 1 cI 0 w Ap W.length (W.map (·.2))) :
    Calls Tryz.prog 110 #[.agg #[.slice An ns.length cn, .slice Ac cs.length cc], .int .i64 (s : Int), .slice Ap W.length cp] w (UNPost (nodesI cs s W) w) := by
  obtain ⟨n16, c32⟩ := valid_sizes hv
  obtain ⟨w1, hw1⟩ : ∃ w1 : World, w.alloc (.cells #[.slice An ns.length cn, .slice Ac cs.length cc] 25) = w1 := ⟨_, rfl⟩
  have s0 : w1.cell? ⟨w.heap.size, 0, none⟩ = some (.slice An ns.length cn) := by rw [← hw1]; simp [go_sem]
  have s1 : w1.cell? ⟨w.heap.size, 1, none⟩ = some (.slice Ac cs.length cc) := by rw [← hw1]; simp [go_sem]
  have sz1 : w.heap.size < w1.heap.size := by rw [← hw1]; simp
  have BW0 : Hid (Below w.heap.size w w1) := by rw [Hid, ← hw1]; exact (Below.refl _ _).alloc (Nat.le_refl _) _
  have H1 := Lib.hid (h.below (Nat.le_refl _) BW0.out)
  have P1 := Lib.hid (h2.below (Nat.le_refl _) BW0.out)
  have KC : Hid (∀ w', Below w1.heap.size w1 w' → (w'.cell? ⟨w.heap.size, 0, none⟩ = some (.slice An ns.length cn) ∧ w'.cell? ⟨w.heap.size, 1, none⟩ = some (.slice Ac cs.length cc)) ∧ Below w.heap.size w w' ∧ IsPlan w' An Ac ⟨ns, cs⟩ ∧ IsRec 1 cI 0 w' Ap W.length (W.map (·.2))) :=
    fun w' hb => ⟨⟨(hb.cell (by exact sz1)).trans s0, (hb.cell (by exact sz1)).trans s1⟩, BW0.out.trans (hb.mono (by omega)), H1.out.below (Nat.le_refl _) hb, P1.out.below (Nat.le_refl _) hb⟩
  have HV := Lib.hid hv
  have NL : Hid ((nodesI cs s W).length = W.length + 1) := by rw [Hid]; unfold nodesI; rw [List.length_map, nodesW_len]
  have N0 : Hid ((nodesI cs s W).getD 0 0 = (s : Int)) := by rw [Hid]; unfold nodesI nodesW; simp
  have ND : Hid (∀ i, i < W.length → ∃ (k u u' : Nat), (W.map (·.2)).getD i 0 = k ∧ k < cs.length ∧ (nodesI cs s W).getD i 0 = u ∧ (nodesI cs s W).getD (i + 1) 0 = u' ∧ touchT (cs.getD k cb0) u u') := fun i hi => by
    obtain ⟨e1, e2⟩ := nodesW_at cs W s v i hW.1 hi
    have hm : W.getD i (0, 0) ∈ W := by simp [List.getD, hi]
    obtain ⟨k, hk, hkl, ht, _⟩ := hW.2.2 _ hm
    have l1 : i < (nodesW cs s W).length := by rw [nodesW_len]; omega
    have l2 : i + 1 < (nodesW cs s W).length := by rw [nodesW_len]; omega
    refine ⟨k, (W.getD i (0, 0)).1, othN cs (W.getD i (0, 0)).1 k, by rw [← hk]; simp [List.getD, hi], hkl, ?_, ?_, ht⟩
    · rw [← e1]; unfold nodesI; simp [List.getD, l1]
    · rw [show othN cs (W.getD i (0, 0)).1 k = othN cs (W.getD i (0, 0)).1 (W.getD i (0, 0)).2.toNat by rw [hk, Int.toNat_natCast], ← e2]; unfold nodesI; simp [List.getD, l2]
  have hsn := hW.2.1
  generalize nodesI cs s W = N at *
  have HW1 := Lib.hid hw1
  obtain ⟨i0, hi0, hz0, hz1, hz2⟩ := info_parts infoIntL
  have sn1 : (s : Int) < (ns.length : Int) := by omega
  have sn0 : ¬ (s : Int) < 0 := by omega
  clear h h2 hw1 hW hv
  go_enter Tryz.func110, Tryz.ntmps110
  go_wp2_with fail
  rw [HW1.out]
  go_wp2_with fail
  clear s0 s1
  go_loopw [8] (fun i wr => RelKb W.length w1 i wr) (fun i _ => W.length - (RowKit.intOf i).toNat)
  case atStart => exact ⟨0, Nat.zero_le _, rfl, Below.refl _ _⟩
  case round =>
    obtain ⟨k, hk, rfl, belr⟩ := hrel
    have BR := Lib.hid belr
    clear belr
    by_cases hkr : k < W.length
    · obtain ⟨b1, o1, ha1, hb1, hm1, e1⟩ := int_at (KC.out wr BR.out).2.2.2 k hkr
      obtain ⟨q, u, u', hq, hql, _⟩ := ND.out k hkr
      rw [hq] at e1
      obtain ⟨⟨c0, c1⟩, _⟩ := KC.out wr BR.out
      subst ha1
      have ki : (k : Int) < (W.length : Int) := by omega
      have qi : (q : Int) < (cs.length : Int) := by omega
      have q0 : ¬ (q : Int) < 0 := by omega
      have R : Hid (∀ n, RelKb W.length w1 (.int .i64 ((k + 1 : Nat) : Int)) (wr.drewN n)) := fun n => ⟨k + 1, by omega, rfl, below_drewN BR.out n⟩
      clear hm1 hq
      go_wp2_with fail
      go_quiet (fail)
      go_wp2_with fail
      exact ⟨by simpa using R.out _, by simp [RowKit.intOf]; omega⟩
    · obtain rfl : k = W.length := by omega
      have hzr := BR.out.size
      have ST : Hid (RelNd N W.length w1 (.slice (some ⟨wr.heap.size, 0, none⟩) 1 1) (.int .i64 (s : Int)) (.int .i64 0) (wr.alloc (.cells #[.int .i64 (s : Int)] 3))) := by
        refine ⟨0, Nat.zero_le _, rfl, by rw [N0.out], ?_, BR.out.alloc BR.out.size _⟩
        have e : N.take (0 + 1) = [(s : Int)] := by
          have := NL.out
          have h0 := N0.out
          cases N with
          | nil => simp at this
          | cons a l => simp at h0; simp [h0]
        rw [e]
        exact own_litL wr 3 _ hzr
      go_wp2_with fail
      go_loopw [9, 10, 11] (fun v a i wr => RelNd N W.length w1 v a i wr) (fun _ _ i _ => W.length - (RowKit.intOf i).toNat)
      case atStart => exact ST.out
      case round =>
        clear ST
        obtain ⟨j, hj, rfl, rfl, own, belr⟩ := hrel
        have BQ := Lib.hid belr
        have OW := Lib.hid own
        clear belr own
        by_cases hjr : j < W.length
        · obtain ⟨b1, o1, ha1, hb1, hm1, e1⟩ := int_at (P1.out) j hjr
          obtain ⟨q, u, u', hq, hql, hu, hu', ht⟩ := ND.out j hjr
          rw [hq] at e1
          have OC : Hid (∀ w', Below w1.heap.size w1 w' → Calls Tryz.prog 67 #[.agg #[.slice An ns.length cn, .slice Ac cs.length cc], .int .i64 (q : Int), .int .i64 (u : Int)] w' fun e w'' => e = .returned (.int .i64 (u' : Int)) ∧ Below w'.heap.size w' w'') := fun w' hb => by
            have := Other17_any cs An Ac ns.length cn cc q (u : Int) w' (by omega) (H1.out.below (Nat.le_refl _) hb).2 hql
            rw [otherR HV.out (getD_mem (d := cb0) hql) ht] at this
            exact this
          have TS : Hid (N.take (j + 1 + 1) = N.take (j + 1) ++ [(u' : Int)]) := by rw [Hid, take_snocG 0 N (j + 1) (by have := NL.out; omega), hu']
          have HU' := Lib.hid hu'
          rw [hu]
          have hln : (N.take (j + 1)).length ≤ 2000 := by rw [List.length_take]; omega
          generalize N.take (j + 1) = T at *
          subst ha1
          have KS : Hid (∀ w', Below w1.heap.size w1 w' → w'.cell? ⟨w.heap.size, 0, none⟩ = some (.slice An ns.length cn) ∧ w'.cell? ⟨w.heap.size, 1, none⟩ = some (.slice Ac cs.length cc) ∧ w'.cell? ⟨b1, o1 + j, none⟩ = some (.int .i64 (q : Int))) := fun w' hb => ⟨(KC.out w' hb).1.1, (KC.out w' hb).1.2, (hb.cell hb1).trans e1⟩
          obtain ⟨c0, c1, e2⟩ := KS.out wr BQ.out
          have ji : (j : Int) < (W.length : Int) := by omega
          have u0 : ¬ (u' : Int) < 0 := by omega
          clear hm1 hq hu hu' ht e1
          go_wp2_with fail
          go_region_held3 (fun w' => w'.cell? ⟨w.heap.size, 0, none⟩ = some (.slice An ns.length cn) ∧ w'.cell? ⟨w.heap.size, 1, none⟩ = some (.slice Ac cs.length cc) ∧ w'.cell? ⟨b1, o1 + j, none⟩ = some (.int .i64 (q : Int)))
            (first | exact ⟨c0, c1, e2⟩ | exact KS.out _ B4.out)
            (first | (go_at_call 67; refine (OC.out _ (by repeat (first | exact BQ.out | refine Below.drew ?_))).mono ?_; rintro e w4 ⟨rfl, bel4⟩; have B4 : Hid (Below w1.heap.size w1 w4) := BQ.out.drew.trans (bel4.mono BQ.out.size); have BX : Hid (Below wr.heap.size wr w4) := (Below.refl _ _).drew.trans bel4; clear bel4))
          all_goals
            have OW4 := Lib.hid (own_belowL OW.out BX.out)
            have RD : Hid (Reads (w4.alloc (.cells #[.int .i64 (u' : Int)] 3)) (w4.heap.size + 1) 1 (some ⟨w4.heap.size, 0, none⟩) 1 [.int .i64 (u' : Int)]) := reads_newL w4 _ _
            have OA : Hid ((w4.alloc (.cells #[.int .i64 (u' : Int)] 3)).ownsRow w1.heap.size 3 1 u9 T.length (T.flatMap cI)) := OW4.out.alloc _
            have BA : Hid (Below w1.heap.size w1 (w4.alloc (.cells #[.int .i64 (u' : Int)] 3))) := B4.out.alloc B4.out.size _
            have hz4 := B4.out.size
            clear c0 c1 e2 OC
            go_wp2_with (at_builtin; refine wpList_append_any _ rfl (.tmp 60) (.tmp 62) 28 rfl w1.heap.size 3 i0 _ 1 8 Tryz.underlying28 hi0 hz0 hz1 hz2 rfl (by decide) _ T.length _ rfl OA.out (w4.heap.size + 1) (some ⟨w4.heap.size, 0, none⟩) 1 1 [.int .i64 (u' : Int)] rfl RD.out ?m1n ?m2n ?m3n ?m4n ?_)
            case m1n => intro z hz; simp at hz; rw [hz]; rfl
            case m2n => unfold maxLen; omega
            case m3n => omega
            case m4n => simp; omega
            intro v2 w5 own2 gr2 _
            have R : Hid (RelNd N W.length w1 v2 (.int .i64 (u' : Int)) (.int .i64 ((j + 1 : Nat) : Int)) w5) := by
              refine ⟨j + 1, by omega, rfl, by rw [HU'.out], ?_, BA.out.grown gr2 (by simp; omega) (fun g e => by have := (OA.out.lt g e).1; omega)⟩
              rw [TS.out, List.length_append, List.flatMap_append]
              simpa [cI] using own2
            clear own2 gr2 RD OA
            go_wp2_with fail
            exact ⟨by simpa using R.out, by simp [RowKit.intOf]; omega⟩
        · obtain rfl : j = W.length := by omega
          have eN : N.take (W.length + 1) = N := List.take_of_length_le (by have := NL.out; omega)
          rw [eN] at OW
          have F : Hid (UNPost N w (.returned (.tuple #[u9, .int .i64 0])) wr) := ⟨u9, rfl, own_mono OW.out (by omega), (KC.out wr BQ.out).2.1⟩
          clear OW eN
          go_wp2_with fail
          go_ret2
          exact F.out
end Go.Proofs.YtljojgpjgjfddaaGreat
