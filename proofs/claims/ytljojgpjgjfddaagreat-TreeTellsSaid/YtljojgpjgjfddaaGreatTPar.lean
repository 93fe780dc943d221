/- The contracts of slices.IndexFunc at cables with the predicate of tree.parents, and of tree.parents. -/
import Derived.Test.YtljojgpjgjfddaaGreatTCheck
import Derived.Test.YtljojgpjgjfddaaGreatTMake
namespace Go.Proofs.YtljojgpjgjfddaaGreat
open Go.RowKit Go.Maps
set_option linter.unusedVariables false
set_option linter.unusedSimpArgs false

theorem parV_at {cs : List Cb} {lv : List Int} {v k : Nat} (hk : k < cs.length) (h : pOk lv v (cs.getD k cb0) = true) (hall : ∀ j, j < k → pOk lv v (cs.getD j cb0) = false) : parV cs lv v = (k : Int) := by
  unfold parV
  have : (List.range cs.length).find? (fun i => pOk lv v (cs.getD i cb0)) = some k := by
    rw [List.find?_eq_some_iff_getElem]
    refine ⟨h, k, by simpa using hk, by simp, fun j hj => ?_⟩
    simpa using hall j hj
  rw [this]
theorem parV_no {cs : List Cb} {lv : List Int} {v : Nat} (hall : ∀ j, j < cs.length → pOk lv v (cs.getD j cb0) = false) : parV cs lv v = -1 := by
  unfold parV
  have : (List.range cs.length).find? (fun i => pOk lv v (cs.getD i cb0)) = none := by
    rw [List.find?_eq_none]
    intro i hi
    rw [hall i (List.mem_range.1 hi)]; decide
  rw [this]
def RelIC (cs : List Cb) (lv : List Int) (u : Nat) (w0 : World) (i : Value) (wr : World) : Prop := ∃ k : Nat, k ≤ cs.length ∧ i = .int .i64 k ∧ (∀ j, j < k → pOk lv u (cs.getD j cb0) = false) ∧ Below w0.heap.size w0 wr
set_option maxRecDepth 100000 in
set_option maxHeartbeats 1000000 in
theorem idxC_any (ns : List Nd) (cs : List Cb) (lv : List Int) (ga gb u : Nat) (Ac Al : Option Addr) (cc cl : Nat) (w : World) (hv : validP ⟨ns, cs⟩ = 0) (hll : lv.length = ns.length) (hl : cs.length ≤ 1000000) (hl2 : lv.length ≤ 1000000) (hs : SmallI lv) (h : IsRec 6 cC cb0 w Ac cs.length cs)
    (ha : ga < w.heap.size) (hb : gb < w.heap.size) (hx : w.cell? ⟨ga, 0, none⟩ = some (.slice Al lv.length cl)) (hy : w.cell? ⟨gb, 0, none⟩ = some (.int .i64 (u : Int))) (hu : u < lv.length) (h2 : IsRec 1 cI 0 w Al lv.length lv) :
    Calls Tryz.prog 112 #[.slice Ac cs.length cc, .func (.func 113) #[] #[.pointer (some ⟨ga, 0, none⟩), .pointer (some ⟨gb, 0, none⟩)]] w fun e w' => e = .returned (.int .i64 (parV cs lv u)) ∧ Below w.heap.size w w' := by
  have H := Lib.hid h
  have HV := Lib.hid hv
  have LE : Hid (∀ (x : Cb) w', x ∈ cs → Below w.heap.size w w' → Calls Tryz.prog 113 #[.agg #[.int .i64 x.a, .int .i64 x.ap, .int .i64 x.b, .int .i64 x.bp, .int .i64 x.dl, .int .i64 x.cp], .pointer (some ⟨ga, 0, none⟩), .pointer (some ⟨gb, 0, none⟩)] w' fun e w'' => e = .returned (.bool (pOk lv u x)) ∧ Below w'.heap.size w' w'') := fun x w' hm hw => by
    obtain ⟨n1, n2⟩ := cab_node hv hm
    exact par1_any x ga gb u lv Al cl w' (by have := hw.size; omega) (by have := hw.size; omega) hl2 hs ((hw.cell (p := ⟨ga, 0, none⟩) ha).trans hx) ((hw.cell (p := ⟨gb, 0, none⟩) hb).trans hy) hu (h2.below (Nat.le_refl _) hw) (by rw [hll]; exact n1) (by rw [hll]; exact n2)
  clear h hx hy hv h2 hs
  go_enter Tryz.func112, Tryz.ntmps112
  go_wp2_with fail
  go_loopw [8] (fun i wr => RelIC cs lv u w i wr) (fun i _ => cs.length - (RowKit.intOf i).toNat)
  case atStart => exact ⟨0, Nat.zero_le _, rfl, by intro j hj; omega, Below.refl _ _⟩
  case round =>
    obtain ⟨k, hk, rfl, hall, bel⟩ := hrel
    have HA := Lib.hid hall
    have BE := Lib.hid bel
    clear hall
    by_cases hkr : k < cs.length
    · obtain ⟨b1, o1, ha1, hb1, hm1, e0, e1, e2, e3, e4, e5⟩ := cable_at (H.out.below (Nat.le_refl _) bel) k hkr
      have HS : Hid (pOk lv u (cs.getD k cb0) = false → ∀ w', Below w.heap.size w w' → RelIC cs lv u w (.int .i64 ((k + 1 : Nat) : Int)) w') := fun hx w' hb => ⟨k + 1, by omega, rfl, fun j hj => by
        by_cases e : j = k
        · subst e; exact hx
        · exact HA.out j (by omega), hb⟩
      have HY : Hid (pOk lv u (cs.getD k cb0) = true → parV cs lv u = (k : Int)) := fun hx => parV_at hkr hx HA.out
      have HC := Lib.hid (LE.out (cs.getD k cb0) wr hm1 bel)
      generalize cs.getD k cb0 = d at *
      subst ha1
      obtain ⟨xa, xap, xb, xbp, xd, xc⟩ := d
      simp only at e0 e1 e2 e3 e4 e5 HC
      have i2 : (k : Int) < (cs.length : Int) := by omega
      clear hm1 bel
      go_wp2_with fail
      refine HC.out.mono ?_
      rintro e w2 ⟨rfl, bel2⟩
      have B2 : Hid (Below w.heap.size w w2) := BE.out.trans (bel2.mono BE.out.size)
      clear bel2 e0 e1 e2 e3 e4 e5
      cases hq : pOk lv u ⟨xa, xap, xb, xbp, xd, xc⟩ with
      | true =>
        have F := Lib.hid (HY.out hq)
        clear HS HY hq
        go_wp2_with fail
        go_ret
        exact ⟨by rw [F.out]; rfl, B2.out⟩
      | false =>
        have R := Lib.hid (HS.out hq w2 B2.out)
        clear HS HY hq
        go_wp2_with fail
        exact ⟨by simpa using R.out, by simp [RowKit.intOf]; omega⟩
    · obtain rfl : k = cs.length := by omega
      have F : Hid (parV cs lv u = -1) := parV_no HA.out
      clear bel
      go_wp2_with fail
      go_ret
      exact ⟨by rw [F.out]; rfl, BE.out⟩
def RelPar (ns : List Nd) (cs : List Cb) (lv : List Int) (g : Nat) (w0 : World) (i : Value) (wr : World) : Prop :=
  ∃ k : Nat, k ≤ ns.length ∧ i = .int .i64 k ∧ RBlk wr g 3 1 ns.length (fun j => [.int .i64 (if j < k then parV cs lv j else 0)]) ∧ Below g w0 wr
set_option maxRecDepth 100000 in
set_option maxHeartbeats 2000000 in
theorem parents_any (ns : List Nd) (cs : List Cb) (lv : List Int) (An Ac Al : Option Addr) (cn cc cl : Nat) (w : World) (hv : validP ⟨ns, cs⟩ = 0) (hll : lv.length = ns.length) (hs : SmallI lv) (h : IsPlan w An Ac ⟨ns, cs⟩) (h2 : IsRec 1 cI 0 w Al lv.length lv) :
    Calls Tryz.prog 71 #[.agg #[.slice An ns.length cn, .slice Ac cs.length cc], .agg #[.slice Al lv.length cl]] w fun e w' => ∃ g, e = .returned (.slice (some ⟨g, 0, none⟩) ns.length ns.length) ∧ w.heap.size ≤ g ∧ IsRec 1 cI 0 w' (some ⟨g, 0, none⟩) ns.length (parL ns cs lv) ∧ Below w.heap.size w w' := by
  obtain ⟨n16, c32⟩ := valid_sizes hv
  obtain ⟨w1, hw1⟩ : ∃ w1 : World, (w.alloc (.cells #[.slice An ns.length cn, .slice Ac cs.length cc] 25)).alloc (.cells #[.slice Al lv.length cl] 30) = w1 := ⟨_, rfl⟩
  have s0 : w1.cell? ⟨w.heap.size, 0, none⟩ = some (.slice An ns.length cn) := by rw [← hw1]; simp [go_sem]
  have s1 : w1.cell? ⟨w.heap.size, 1, none⟩ = some (.slice Ac cs.length cc) := by rw [← hw1]; simp [go_sem]
  have s2 : w1.cell? ⟨w.heap.size + 1, 0, none⟩ = some (.slice Al lv.length cl) := by rw [← hw1]; simp [go_sem]
  have sz1 : w.heap.size + 1 < w1.heap.size := by rw [← hw1]; simp
  have BW0 : Hid (Below w.heap.size w w1) := by rw [Hid, ← hw1]; exact ((Below.refl _ _).alloc (Nat.le_refl _) _).alloc (by simp) _
  have H1 := Lib.hid (h.below (Nat.le_refl _) BW0.out)
  have L1 := Lib.hid (h2.below (Nat.le_refl _) BW0.out)
  have hsz : Hid (w.heap.size + 1 + 1 = w1.heap.size) := by rw [Hid, ← hw1]; simp
  have HW1 := Lib.hid hw1
  have HV := Lib.hid hv
  have HS := Lib.hid hs
  have HLL := Lib.hid hll
  obtain ⟨j0, hj0, hy0, hy1, hy2⟩ := info_parts infoInt
  obtain ⟨o4, ho4⟩ : ∃ o4, Obj.cells (madeCells #[.int .i64 0] ns.length) 3 = o4 := ⟨_, rfl⟩
  have HO4 := Lib.hid ho4
  clear h h2 hw1 hv hs ho4 hll
  go_enter Tryz.func71, Tryz.ntmps71
  go_wp2_with (at_make; refine wpList_make_rec _ rfl _ _ 28 rfl 3 j0 _ 1 Tryz.underlying28 hj0 hy0 hy1 .i64 .i64 _ _ ns.length rfl rfl ?m1 ?m2 (by rw [hy2]; omega) (by unfold maxLen; omega) ?_)
  case m1 => rfl
  case m2 => rfl
  rw [HW1.out, HO4.out, hsz.out]
  obtain ⟨w4, hw4⟩ : ∃ w4 : World, w1.alloc o4 = w4 := ⟨_, rfl⟩
  have ST : Hid (RelPar ns cs lv w1.heap.size w1 (.int .i64 0) w4) := by
    refine ⟨0, Nat.zero_le _, rfl, ?_, ?_⟩
    · rw [← hw4, ← HO4.out]
      have := RBlk.made w1 (m := 1) (n := ns.length) (t := 3) (z := #[.int .i64 0]) rfl (by decide)
      rw [Nat.mul_one] at this
      exact this.congr fun i hi => rfl
    · rw [← hw4]; exact (Below.refl _ _).alloc (Nat.le_refl _) _
  rw [hw4]
  clear hw4 HO4 hj0 hy0 hy1 hy2
  go_wp2_with fail
  go_loopw [13] (fun i wr => RelPar ns cs lv w1.heap.size w1 i wr) (fun i _ => ns.length - (RowKit.intOf i).toNat)
  case atStart => exact ST.out
  case round =>
    clear ST
    obtain ⟨k, hk, rfl, rb, bel⟩ := hrel
    have RB := Lib.hid rb
    have BE := Lib.hid bel
    have bs := bel.size
    have gl := rb.lt
    by_cases hkr : k < ns.length
    · obtain ⟨wa, hwa⟩ : ∃ wa : World, wr.alloc (.cells #[.int .i64 (k : Int)] 3) = wa := ⟨_, rfl⟩
      have BA : Hid (Below wr.heap.size wr wa) := by rw [Hid, ← hwa]; exact (Below.refl _ _).alloc (Nat.le_refl _) _
      have BA1 : Hid (Below w1.heap.size w1 wa) := BE.out.trans (BA.out.mono bs)
      have sza : wr.heap.size < wa.heap.size := by rw [← hwa]; simp
      have t0 : wa.cell? ⟨wr.heap.size, 0, none⟩ = some (.int .i64 (k : Int)) := by rw [← hwa]; simp [go_sem]
      have t1 : wa.cell? ⟨w.heap.size, 1, none⟩ = some (.slice Ac cs.length cc) := (BA1.out.cell (by show w.heap.size < _; omega)).trans s1
      have t2 : wa.cell? ⟨w.heap.size + 1, 0, none⟩ = some (.slice Al lv.length cl) := (BA1.out.cell (by exact sz1)).trans s2
      have RBA : Hid (RBlk wa w1.heap.size 3 1 ns.length (fun j => [.int .i64 (if j < k then parV cs lv j else 0)])) := RB.out.below BA.out gl
      have ki : (k : Int) < (ns.length : Int) := by omega
      have HWA := Lib.hid hwa
      have KP : Hid (∀ w', Below wa.heap.size wa w' → w'.cell? ⟨wr.heap.size, 0, none⟩ = some (.int .i64 (k : Int)) ∧ w'.cell? ⟨w.heap.size, 1, none⟩ = some (.slice Ac cs.length cc)) :=
        fun w' hb => ⟨(hb.cell (by exact sza)).trans t0, (hb.cell (by show w.heap.size < _; omega)).trans t1⟩
      have IX : Hid (∀ w', Below wa.heap.size wa w' → Calls Tryz.prog 112 #[.slice Ac cs.length cc, .func (.func 113) #[] #[.pointer (some ⟨w.heap.size + 1, 0, none⟩), .pointer (some ⟨wr.heap.size, 0, none⟩)]] w' fun e w'' => e = .returned (.int .i64 (parV cs lv k)) ∧ Below w'.heap.size w' w'') := fun w' hb => by
        have s2 := hb.size
        have hll := HLL.out
        exact idxC_any ns cs lv (w.heap.size + 1) wr.heap.size k Ac Al cc cl w' HV.out hll (by omega) (by omega) HS.out ((H1.out.below (Nat.le_refl _) (BA1.out.trans (hb.mono BA1.out.size))).2) (by omega) (by omega) ((hb.cell (p := ⟨w.heap.size + 1, 0, none⟩) (by show w.heap.size + 1 < _; omega)).trans t2) ((hb.cell (p := ⟨wr.heap.size, 0, none⟩) (by exact sza)).trans t0) (by omega) (L1.out.below (Nat.le_refl _) (BA1.out.trans (hb.mono BA1.out.size)))
      have NX : Hid (∀ w', Below wa.heap.size wa w' → (w'.frozen? ⟨w1.heap.size, k, none⟩ = false ∧ w'.cell? ⟨w1.heap.size, k, none⟩ = some (.int .i64 0)) ∧ RelPar ns cs lv w1.heap.size w1 (.int .i64 ((k + 1 : Nat) : Int)) (w'.setCell ⟨w1.heap.size, k, none⟩ (.int .i64 (parV cs lv k))) ∧ (w'.setCell ⟨w1.heap.size, k, none⟩ (.int .i64 (parV cs lv k))).cell? ⟨wr.heap.size, 0, none⟩ = some (.int .i64 (k : Int)) ∧ (w'.setCell ⟨w1.heap.size, k, none⟩ (.int .i64 (parV cs lv k))).cell? ⟨w.heap.size, 1, none⟩ = some (.slice Ac cs.length cc)) := fun w' hb => by
        have r := RBA.out.below hb (by omega)
        have kk := KP.out w' hb
        have e1 : wr.heap.size ≠ w1.heap.size := by omega
        have e2 : w.heap.size ≠ w1.heap.size := by omega
        refine ⟨⟨r.frozen _, by have := r.cell (i := k) (j := 0) hkr (by omega); simpa using this⟩, ⟨k + 1, by omega, rfl, (r.set1 hkr (.int .i64 (parV cs lv k))).congr fun i hi => ?_, (BA1.out.trans (hb.mono BA1.out.size)).setCell (Nat.le_refl _) _⟩, ?_, ?_⟩
        · unfold setR
          by_cases e : i = k
          · subst e; rw [if_pos rfl, if_pos (by omega)]; rfl
          · rw [if_neg e]
            show [Value.int .i64 (if i < k then parV cs lv i else 0)] = _
            by_cases e2 : i < k
            · rw [if_pos e2, if_pos (by omega)]
            · rw [if_neg e2, if_neg (by omega)]
        · rw [World.cell?_setCell_other _ _ _ _ (by intro h; injection h with h; exact e1 h.symm)]; exact kk.1
        · rw [World.cell?_setCell_other _ _ _ _ (by intro h; injection h with h; exact e2 h.symm)]; exact kk.2
      generalize parV cs lv k = pv at *
      clear rb bel hwa s0 s1 s2 t2
      go_wp2_with fail
      rw [HWA.out]
      generalize wr.heap.size = tb at *
      go_region_held3 (fun w' => w'.cell? ⟨tb, 0, none⟩ = some (.int .i64 (k : Int)) ∧ w'.cell? ⟨w.heap.size, 1, none⟩ = some (.slice Ac cs.length cc))
        (first | exact ⟨t0, t1⟩ | exact KP.out _ B2.out | exact (NX.out _ B2.out).2.2)
        (first | (go_at_call 112; refine (IX.out _ ((Below.refl _ _).drew)).mono ?_; rintro e w2 ⟨rfl, bel2⟩; have B2 : Hid (Below wa.heap.size wa w2) := (Below.refl _ _).drew.trans bel2; obtain ⟨fz, cz⟩ := (NX.out w2 B2.out).1; clear bel2))
      all_goals
        have R := Lib.hid (NX.out _ B2.out).2.1
        clear fz cz
        go_wp2_with fail
        exact ⟨by simpa using R.out, by simp [RowKit.intOf]; omega⟩
    · obtain rfl : k = ns.length := by omega
      have R : Hid (IsRec 1 cI 0 wr (some ⟨w1.heap.size, 0, none⟩) ns.length (parL ns cs lv)) := RB.out.isRec (by simp [parL]) (fun i hi => by
        rw [if_pos hi]; unfold cI parL; simp [List.getD, hi])
      clear rb bel
      go_wp2_with fail
      go_ret
      exact ⟨_, rfl, by have := BW0.out.size; omega, R.out, BW0.out.trans (BE.out.mono BW0.out.size)⟩
end Go.Proofs.YtljojgpjgjfddaaGreat
