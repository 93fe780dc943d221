/- The contracts of the reference's channel, Legal and Deps at valid trees. -/
import Derived.Test.YtljojgpjgjfddaaGreatRTL
import Derived.Test.YtljojgpjgjfddaaGreatRTR
import Derived.Test.YtljojgpjgjfddaaGreatRTP
namespace Go.Proofs.YtljojgpjgjfddaaGreat
open Go.RowKit Go.Maps
set_option linter.unusedVariables false
set_option linter.unusedSimpArgs false

theorem lt_of_cellR {w : World} {b off : Nat} {v : Value} (h : w.cell? ⟨b, off, none⟩ = some v) : b < w.heap.size := by
  rcases Nat.lt_or_ge b w.heap.size with hlt | hge
  · exact hlt
  · simp [World.cell?, Array.getElem?_eq_none hge] at h
set_option maxHeartbeats 1000000 in
theorem channel23_any (ns : List Nd) (cs : List Cb) (An Ac : Option Addr) (cn cc k u : Nat) (w : World) (hl : cs.length ≤ 32) (hk : k < cs.length) (h : IsRec 6 cC cb0 w Ac cs.length cs) :
    Calls Tryz.prog 66 #[.agg #[.slice An ns.length cn, .slice Ac cs.length cc], .int .i64 (k : Int), .int .i64 (u : Int)] w fun e w' => e = .returned (.int .i64 (leavV cs (k : Int) (u : Int))) ∧ Below w.heap.size w w' := by
  have B : Hid (Below w.heap.size w (w.alloc (.cells #[.slice An ns.length cn, .slice Ac cs.length cc] 25))) := (Below.refl _ _).alloc (Nat.le_refl _) _
  obtain ⟨bc, oc, hAc, hbc, _, ca, cap', cb, cbp, cd, ccp⟩ := cable_at h k hk
  have kw : (k : Int) < (cs.length : Int) := by omega
  have k0 : (0 : Int) ≤ (k : Int) := by omega
  have c0 : chanV (k : Int) 0 = 2 * k := by unfold chanV; rw [if_neg (by omega)]; omega
  have c1 : chanV (k : Int) 1 = 2 * k + 1 := by unfold chanV; rw [if_neg (by omega)]
  have E : Hid (leavV cs (k : Int) (u : Int) = if (cs.getD k cb0).a = (u : Int) then 2 * (k : Int) else 2 * (k : Int) + 1) := by
    rw [Hid]; unfold leavV; rw [Int.toNat_natCast, c0, c1]
  generalize cs.getD k cb0 = x at *
  obtain ⟨xa, xap, xb, xbp, xd, xc⟩ := x
  simp only at ca cap' cb cbp cd ccp
  have E2 : Hid (leavV cs (k : Int) (u : Int) = if xa = (u : Int) then 2 * (k : Int) else 2 * (k : Int) + 1) := E.out
  have q1 : IntKind.i64.wrap (2 * (k : Int)) = 2 * (k : Int) := IntWalk.i64_in _ (by omega)
  have q2 : IntKind.i64.wrap (2 * (k : Int) + 1) = 2 * (k : Int) + 1 := IntWalk.i64_in _ (by omega)
  subst hAc
  clear h E c0 c1
  cases h1 : xa == (u : Int) with
  | true =>
    have F : Hid (leavV cs (k : Int) (u : Int) = 2 * (k : Int)) := by rw [Hid, E2.out, if_pos (by simpa using h1)]
    clear E2
    go_enter Tryz.func66, Tryz.ntmps66
    go_wp2_with fail
    go_ret
    exact ⟨by rw [F.out]; first | rfl | simp [q1], B.out⟩
  | false =>
    have F : Hid (leavV cs (k : Int) (u : Int) = 2 * (k : Int) + 1) := by rw [Hid, E2.out, if_neg (by simpa using h1)]
    clear E2
    go_enter Tryz.func66, Tryz.ntmps66
    go_wp2_with fail
    go_ret
    exact ⟨by rw [F.out]; first | rfl | simp [q1, q2], B.out⟩
def RelRg (cs : List Cb) (lv : List Int) (x : Tr) (n : Nat) (w3 : World) (i : Value) (wr : World) : Prop := ∃ k : Nat, k ≤ n ∧ i = .int .i64 k ∧ allLeg cs lv x k ∧ Below w3.heap.size w3 wr
def RLPost (cs : List Cb) (lv : List Int) (x : Tr) (n : Nat) (w : World) (e : Ending) (w' : World) : Prop := ∃ b : Bool, e = .returned (.bool b) ∧ Below w.heap.size w w' ∧ (b = true ↔ allLeg cs lv x n)
set_option maxRecDepth 100000 in
set_option maxHeartbeats 8000000 in
theorem rlegal_any (ns : List Nd) (cs : List Cb) (lv : List Int) (x : Tr) (An Ac Al aO aD : Option Addr) (cn cc cl cO cD : Nat) (w : World) (hw : waysB ns cs x = true) (hlv : lv.length = ns.length) (hx : SmallT x) (h : IsPlan w An Ac ⟨ns, cs⟩) (hl : IsRec 1 cI 0 w Al lv.length lv) (h2 : IsTree w aO aD x) :
    Calls Tryz.prog 24 #[.agg #[.slice An ns.length cn, .slice Ac cs.length cc], .slice Al lv.length cl, .agg #[.int .i64 x.src, .slice aO x.out.length cO, .slice aD x.del.length cD]] w (RLPost cs lv x ns.length w) := by
  obtain ⟨s, r, V⟩ := valid_tree hw
  have hv := V.hv
  obtain ⟨n16, c32⟩ := valid_sizes hv
  obtain ⟨w1, hw1⟩ : ∃ w1 : World, (w.alloc (.cells #[.slice An ns.length cn, .slice Ac cs.length cc] 25)).alloc (.cells #[.int .i64 x.src, .slice aO x.out.length cO, .slice aD x.del.length cD] 61) = w1 := ⟨_, rfl⟩
  have s0 : w1.cell? ⟨w.heap.size, 0, none⟩ = some (.slice An ns.length cn) := by rw [← hw1]; simp [go_sem]
  have s1 : w1.cell? ⟨w.heap.size, 1, none⟩ = some (.slice Ac cs.length cc) := by rw [← hw1]; simp [go_sem]
  have t0 : w1.cell? ⟨w.heap.size + 1, 0, none⟩ = some (.int .i64 x.src) := by rw [← hw1]; simp [go_sem]
  have t1 : w1.cell? ⟨w.heap.size + 1, 1, none⟩ = some (.slice aO x.out.length cO) := by rw [← hw1]; simp [go_sem]
  have t2 : w1.cell? ⟨w.heap.size + 1, 2, none⟩ = some (.slice aD x.del.length cD) := by rw [← hw1]; simp [go_sem]
  have sz1 : w.heap.size + 1 < w1.heap.size := by rw [← hw1]; simp
  have BW0 : Hid (Below w.heap.size w w1) := by rw [Hid, ← hw1]; exact ((Below.refl _ _).alloc (Nat.le_refl _) _).alloc (by simp) _
  have H1 := Lib.hid (h.below (Nat.le_refl _) BW0.out)
  have T1 := Lib.hid (h2.below (Nat.le_refl _) BW0.out)
  have L1 := Lib.hid (hl.below (Nat.le_refl _) BW0.out)
  have HW1 := Lib.hid hw1
  have KC : Hid (∀ w', Below w1.heap.size w1 w' → (w'.cell? ⟨w.heap.size, 0, none⟩ = some (.slice An ns.length cn) ∧ w'.cell? ⟨w.heap.size, 1, none⟩ = some (.slice Ac cs.length cc) ∧ w'.cell? ⟨w.heap.size + 1, 0, none⟩ = some (.int .i64 x.src)) ∧ Below w.heap.size w w') :=
    fun w' hb => ⟨⟨(hb.cell (by show w.heap.size < _; omega)).trans s0, (hb.cell (by show w.heap.size < _; omega)).trans s1, (hb.cell (by exact sz1)).trans t0⟩, BW0.out.trans (hb.mono (by omega))⟩
  have RC := Lib.hid (reached_any ns cs x s An Ac aO aD cn cc cO cD w1 hv V.src V.hs V.ol V.rows hx H1.out T1.out)
  have VH := Lib.hid V
  have WY := Lib.hid hw
  have hs := V.src
  have HLV := Lib.hid hlv
  rw [hs] at t0 KC HW1 RC ⊢
  clear h h2 hl hw1 hv hx V hw hlv
  go_enter Tryz.func24, Tryz.ntmps24
  go_wp2_with fail
  rw [HW1.out]
  go_wp2_with fail
  refine (show Calls _ _ _ _ _ from RC.out).mono ?_
  rintro e w3 ⟨bel3, ⟨hw, rfl⟩ | ⟨bP, bS, Q, seen, P, rfl, hbs, hP, hS⟩⟩
  · rw [WY.out] at hw; cases hw
  · have B3 := Lib.hid bel3
    have BSH := Lib.hid hbs
    have SC : Hid (∀ w', Below w3.heap.size w3 w' → ∀ j, j < ns.length → w'.cell? ⟨bS, j, none⟩ = some (.bool (seen.getD j false))) := fun w' hb j hj => by
      obtain ⟨b1, o1, ha1, hb1, hm1, e1⟩ := bool_at (hS.below (Nat.le_refl _) hb) j hj
      injection ha1 with ha1
      injection ha1 with q1 q3
      subst q1; subst q3
      rw [Nat.zero_add] at e1
      exact e1
    have PC : Hid (∀ w', Below w3.heap.size w3 w' → ∀ j, j < ns.length → ∃ ar cap, IsRec 1 cI 0 w' ar (P.getD j []).length (P.getD j []) ∧ w'.cell? ⟨bP, j, none⟩ = some (.slice ar (P.getD j []).length cap)) := fun w' hb j hj => by
      obtain ⟨b1, o1, ar, cap, ha1, _, _, hrr, e1⟩ := (hP.below (Nat.le_refl _) hb).at_ j hj
      injection ha1 with ha1
      injection ha1 with q1 q3
      subst q1; subst q3
      rw [Nat.zero_add] at e1
      exact ⟨ar, cap, hrr, e1⟩
    have hsrc := hs
    have HSR := Lib.hid hs
    clear bel3 hbs hP hS RC s0 s1 t0 t1 t2 hs hsrc
    go_wp2_with fail
    go_loopw [10] (fun i wr => RelRg cs lv x ns.length w3 i wr) (fun i _ => ns.length - (RowKit.intOf i).toNat)
    case atStart => exact ⟨0, Nat.zero_le _, rfl, fun v W hv => by omega, Below.refl _ _⟩
    case round =>
      obtain ⟨k, hk, rfl, hal, bel⟩ := hrel
      have HA := Lib.hid hal
      have BE := Lib.hid bel
      have BB := Lib.hid (B3.out.trans (bel.mono B3.out.size))
      clear hal bel
      obtain ⟨⟨c0, c1, t0⟩, _⟩ := KC.out wr BB.out
      by_cases hkr : k < ns.length
      · have cs1 := SC.out wr BE.out k hkr
        have SI := BSH.out.sn k hkr
        have ki : (k : Int) < (ns.length : Int) := by omega
        cases hsk : seen.getD k false with
        | false =>
          have R : Hid (∀ n, RelRg cs lv x ns.length w3 (.int .i64 ((k + 1 : Nat) : Int)) (wr.drewN n)) := fun n => ⟨k + 1, by omega, rfl, BSH.out.leg_skip HSR.out hkr hsk HA.out, below_drewN BE.out n⟩
          rw [hsk] at cs1
          clear SI hsk
          go_wp2_with fail
          go_quiet (fail)
          go_wp2_with fail
          exact ⟨by simpa using R.out _, by simp [RowKit.intOf]; omega⟩
        | true =>
          have hq := SI.1 hsk
          obtain ⟨W, hc, hr, hWp, _⟩ := BSH.out.walk _ k hq rfl
          have hWl := walk_len VH.out.I hc hr
          have hwk := VH.out.wkok hc hr
          obtain ⟨ar, cap, hrow, hcell⟩ := PC.out wr BE.out k hkr
          rw [← hWp, List.length_map] at hrow hcell
          have LCL : Hid (∀ w', Below wr.heap.size wr w' → Calls Tryz.prog 69 #[.agg #[.slice An ns.length cn, .slice Ac cs.length cc], .slice Al lv.length cl, .int .i64 (s : Int), .slice ar W.length cap] w' fun e w'' => e = .returned (.bool (legB lv (nodesW cs s W) (W.map (·.2)))) ∧ Below w'.heap.size w' w'') := fun w' hb => by
            have hb1 := BB.out.trans (hb.mono BB.out.size)
            exact legal18_any ns cs lv s k W An Ac Al ar cn cc cl cap w' VH.out.hv HLV.out hwk (by omega) (H1.out.below (Nat.le_refl _) hb1) (L1.out.below (Nat.le_refl _) hb1) (hrow.below (Nat.le_refl _) hb)
          have YES : Hid (legB lv (nodesW cs s W) (W.map (·.2)) = true → ∀ w', Below w3.heap.size w3 w' → RelRg cs lv x ns.length w3 (.int .i64 ((k + 1 : Nat) : Int)) w') := fun hlg w' hb => ⟨k + 1, by omega, rfl, VH.out.leg_next hc hr hlg HA.out, hb⟩
          have NO : Hid (legB lv (nodesW cs s W) (W.map (·.2)) = false → ¬ allLeg cs lv x ns.length) := fun hlg => VH.out.leg_bad hkr hc hr hlg
          have KS : Hid (∀ w', Below wr.heap.size wr w' → w'.cell? ⟨w.heap.size, 0, none⟩ = some (.slice An ns.length cn) ∧ w'.cell? ⟨w.heap.size, 1, none⟩ = some (.slice Ac cs.length cc) ∧ w'.cell? ⟨w.heap.size + 1, 0, none⟩ = some (.int .i64 (s : Int)) ∧ w'.cell? ⟨bP, k, none⟩ = some (.slice ar W.length cap) ∧ w'.cell? ⟨bS, k, none⟩ = some (.bool true)) := fun w' hb => by
            obtain ⟨⟨a0, a1, a2⟩, _⟩ := KC.out w' (BB.out.trans (hb.mono BB.out.size))
            have a3 := SC.out w' (BE.out.trans (hb.mono BE.out.size)) k hkr
            rw [hsk] at a3
            exact ⟨a0, a1, a2, (hb.cell (lt_of_cellR hcell)).trans hcell, a3⟩
          generalize legB lv (nodesW cs s W) (W.map (·.2)) = lb at *
          rw [hsk] at cs1
          clear SI hsk hc hr hWp hwk hrow
          go_wp2_with fail
          go_region_held3 (fun w' => w'.cell? ⟨w.heap.size, 0, none⟩ = some (.slice An ns.length cn) ∧ w'.cell? ⟨w.heap.size, 1, none⟩ = some (.slice Ac cs.length cc) ∧ w'.cell? ⟨w.heap.size + 1, 0, none⟩ = some (.int .i64 (s : Int)) ∧ w'.cell? ⟨bP, k, none⟩ = some (.slice ar W.length cap) ∧ w'.cell? ⟨bS, k, none⟩ = some (.bool true))
            (first | exact ⟨c0, c1, t0, hcell, cs1⟩ | exact KS.out _ BX.out)
            (first | (go_at_call 69; refine (LCL.out _ (by repeat (first | exact Below.refl _ _ | refine Below.drew ?_))).mono ?_; rintro e w5 ⟨rfl, bel5⟩; have BX : Hid (Below wr.heap.size wr w5) := (Below.refl _ _).drew.trans bel5; clear bel5))
          all_goals
            have BB5 := Lib.hid (KC.out w5 (BB.out.trans (BX.out.mono BB.out.size))).2
            have BE5 : Hid (Below w3.heap.size w3 w5) := BE.out.trans (BX.out.mono BE.out.size)
            clear c0 c1 t0 hcell cs1 LCL
            cases lb with
            | false =>
              have F : Hid (RLPost cs lv x ns.length w (.returned (.bool false)) w5) := ⟨false, rfl, BB5.out, ⟨fun q => (by cases q), fun q => (NO.out rfl q).elim⟩⟩
              clear YES NO
              go_wp2_with fail
              go_ret
              exact F.out
            | true =>
              have R := Lib.hid (YES.out rfl w5 BE5.out)
              clear YES NO
              go_wp2_with fail
              exact ⟨by simpa using R.out, by simp [RowKit.intOf]; omega⟩
      · obtain rfl : k = ns.length := by omega
        have F : Hid (RLPost cs lv x ns.length w (.returned (.bool true)) wr) := ⟨true, rfl, (KC.out wr BB.out).2, ⟨fun _ => HA.out, fun _ => rfl⟩⟩
        go_wp2_with fail
        go_ret
        exact F.out
theorem call3_run {P : Program} {a : Act} {w : World} {o : Oper} {x1 x2 x3 : Operand} {f : FuncId} {ts : Array TypeId} {v1 v2 v3 : Value} (hE : ∀ args w, (callFunc f args).run P w = .ok (.enter f args) w)
    (ho : o.op = Op.call { callee := Callee.value (Operand.func f), args := #[x1, x2, x3], argTypes := ts }) (h1 : a.eval x1 = v1) (h2 : a.eval x2 = v2) (h3 : a.eval x3 = v3) : (execOp a.eval o).run P w = .ok (.enter f #[v1, v2, v3]) w := by
  subst h1
  subst h2
  subst h3
  simp [execOp, ho, resolve, invoke, hE, go_sem]
/-- A call of a Go function of three arguments as one step of a region that draws. -/
theorem step_call3 {P : Program} {ops : Array Oper} {o : Oper} {a : Act} {w : World} {K : Act → World → Prop} {Q : Exit → Act → World → Prop} {E : Prop} (hg : o.guard = none) {x1 x2 x3 : Operand} {f : FuncId} {ts : Array TypeId} {v1 v2 v3 : Value} (hE : ∀ args w, (callFunc f args).run P w = .ok (.enter f args) w)
    (ho : o.op = Op.call { callee := Callee.value (Operand.func f), args := #[x1, x2, x3], argTypes := ts }) (h1 : a.eval x1 = v1) (h2 : a.eval x2 = v2) (h3 : a.eval x3 = v3) {Post : Ending → World → Prop}
    (hc : Calls P f #[v1, v2, v3] w Post) (hK : ∀ e w', Post e w' → ∃ r, e = .returned r ∧ K (a.put o.dst r) w') : if Region.wanted o (yielded ops a.tmps) = true then Oper.wp P o a w K Q else E := by
  have hw : Region.wanted o (yielded ops a.tmps) = true := by simp [Region.wanted, hg]
  rw [if_pos hw]
  unfold Oper.wp
  rw [call3_run hE ho h1 h2 h3]
  exact hc.mono fun e w' h => by
    obtain ⟨r, rfl, hk⟩ := hK e w' h
    exact hk
theorem infoDepR : (Tryz.prog.info? 68).map (fun i => (i.zero, i.size, i.bytes)) = some (some (.agg #[.int .i64 0, .int .i64 0, .int .i64 0]), 3, 24) := by kernel_rfl
theorem own_snocR {w : World} {base : Nat} {v : Value} {l : List Dp} {x : Dp} (h : w.ownsRow base 68 3 v (l.length + 1) (l.flatMap cD ++ cD x)) : w.ownsRow base 68 3 v (l ++ [x]).length ((l ++ [x]).flatMap cD) := by
  rw [List.length_append, List.length_singleton, List.flatMap_append, List.flatMap_cons, List.flatMap_nil, List.append_nil]; exact h
theorem own_drewNR {w : World} {base e m k : Nat} {v : Value} {xs : List Value} (h : w.ownsRow base e m v k xs) (n : Nat) : (w.drewN n).ownsRow base e m v k xs := h
def OwnD (w3 : World) (L : List Dp) (v : Value) (wr : World) : Prop := wr.ownsRow w3.heap.size 68 3 v L.length (L.flatMap cD) ∧ Below w3.heap.size w3 wr
def RelD0 (A : Nat → List Dp) (m : Nat) (w3 : World) (v i : Value) (wr : World) : Prop := ∃ f : Nat, f ≤ m ∧ i = .int .i64 f ∧ OwnD w3 (A f) v wr
def RelD2 (cs : List Cb) (pre : List Dp) (fr : Int) (u : Nat) (l : List Int) (w3 : World) (v i : Value) (wr : World) : Prop :=
  ∃ j : Nat, j ≤ l.length ∧ i = .int .i64 j ∧ OwnD w3 (pre ++ (l.take j).map (dpF cs fr u)) v wr
def RDPost (ns : List Nd) (cs : List Cb) (x : Tr) (w : World) (e : Ending) (w' : World) : Prop :=
  ∃ (ts : List Dp) (v : Value), e = .returned v ∧ (∀ us : List Dp, us.Perm (depT23 ns.length cs x) → us.Pairwise (fun a b => ¬ keyLt b a) → ts = us) ∧ w'.ownsRow w.heap.size 68 3 v ts.length (ts.flatMap cD) ∧ Below w.heap.size w w'
set_option maxRecDepth 100000 in
set_option maxHeartbeats 16000000 in
theorem rdeps_any (ns : List Nd) (cs : List Cb) (x : Tr) (An Ac aO aD : Option Addr) (cn cc cO cD' : Nat) (w : World) (hw : waysB ns cs x = true) (hx : SmallT x) (h : IsPlan w An Ac ⟨ns, cs⟩) (h2 : IsTree w aO aD x) :
    Calls Tryz.prog 22 #[.agg #[.slice An ns.length cn, .slice Ac cs.length cc], .agg #[.int .i64 x.src, .slice aO x.out.length cO, .slice aD x.del.length cD']] w (RDPost ns cs x w) := by
  obtain ⟨s, r, V⟩ := valid_tree hw
  have hv := V.hv
  obtain ⟨n16, c32⟩ := valid_sizes hv
  obtain ⟨w1, hw1⟩ : ∃ w1 : World, (w.alloc (.cells #[.slice An ns.length cn, .slice Ac cs.length cc] 25)).alloc (.cells #[.int .i64 x.src, .slice aO x.out.length cO, .slice aD x.del.length cD'] 61) = w1 := ⟨_, rfl⟩
  have s0 : w1.cell? ⟨w.heap.size, 0, none⟩ = some (.slice An ns.length cn) := by rw [← hw1]; simp [go_sem]
  have s1 : w1.cell? ⟨w.heap.size, 1, none⟩ = some (.slice Ac cs.length cc) := by rw [← hw1]; simp [go_sem]
  have t0 : w1.cell? ⟨w.heap.size + 1, 0, none⟩ = some (.int .i64 x.src) := by rw [← hw1]; simp [go_sem]
  have t1 : w1.cell? ⟨w.heap.size + 1, 1, none⟩ = some (.slice aO x.out.length cO) := by rw [← hw1]; simp [go_sem]
  have t2 : w1.cell? ⟨w.heap.size + 1, 2, none⟩ = some (.slice aD x.del.length cD') := by rw [← hw1]; simp [go_sem]
  have sz1 : w.heap.size + 1 < w1.heap.size := by rw [← hw1]; simp
  have BW0 : Hid (Below w.heap.size w w1) := by rw [Hid, ← hw1]; exact ((Below.refl _ _).alloc (Nat.le_refl _) _).alloc (by simp) _
  have H1 := Lib.hid (h.below (Nat.le_refl _) BW0.out)
  have T1 := Lib.hid (h2.below (Nat.le_refl _) BW0.out)
  have HW1 := Lib.hid hw1
  have KC : Hid (∀ w', Below w1.heap.size w1 w' → (w'.cell? ⟨w.heap.size, 0, none⟩ = some (.slice An ns.length cn) ∧ w'.cell? ⟨w.heap.size, 1, none⟩ = some (.slice Ac cs.length cc) ∧ w'.cell? ⟨w.heap.size + 1, 0, none⟩ = some (.int .i64 x.src) ∧ w'.cell? ⟨w.heap.size + 1, 1, none⟩ = some (.slice aO x.out.length cO)) ∧ Below w.heap.size w w') :=
    fun w' hb => ⟨⟨(hb.cell (by show w.heap.size < _; omega)).trans s0, (hb.cell (by show w.heap.size < _; omega)).trans s1, (hb.cell (by exact sz1)).trans t0, (hb.cell (by exact sz1)).trans t1⟩, BW0.out.trans (hb.mono (by omega))⟩
  have RC := Lib.hid (reached_any ns cs x s An Ac aO aD cn cc cO cD' w1 hv V.src V.hs V.ol V.rows hx H1.out T1.out)
  have VH := Lib.hid V
  have WY := Lib.hid hw
  have hs := V.src
  have HV := Lib.hid hv
  have XL : Hid (x.out.length = ns.length) := V.ol
  have RL : Hid (∀ u, (x.out.getD u []).length ≤ 32) := fun u => V.row_len u
  have EDG : Hid (∀ u o, o ∈ x.out.getD u [] → ∃ k : Nat, o = k ∧ k < cs.length) := fun u o ho => by
    obtain ⟨k, h1, h2, _⟩ := V.edge ho
    exact ⟨k, h1, h2⟩
  have CC : Hid (∀ w', Below w1.heap.size w1 w' → ∀ q u : Nat, q < cs.length → Calls Tryz.prog 66 #[.agg #[.slice An ns.length cn, .slice Ac cs.length cc], .int .i64 (q : Int), .int .i64 (u : Int)] w' fun e w'' => e = .returned (.int .i64 (leavV cs (q : Int) (u : Int))) ∧ Below w'.heap.size w' w'') := fun w' hb q u hq =>
    channel23_any ns cs An Ac cn cc q u w' c32 hq (H1.out.below (Nat.le_refl _) hb).2
  rw [hs] at t0 KC HW1 RC ⊢
  obtain ⟨i0, hi0, hz0, hz1, hz2⟩ := info_parts infoDepR
  clear h h2 hw1 hv hx V hw
  go_enter Tryz.func22, Tryz.ntmps22
  go_wp2_with fail
  rw [HW1.out]
  go_wp2_with fail
  refine (show Calls _ _ _ _ _ from RC.out).mono ?_
  rintro e w3 ⟨bel3, ⟨hw, rfl⟩ | ⟨bP, bS, Q, seen, P, rfl, hbs, hP, hS⟩⟩
  · rw [WY.out] at hw; cases hw
  · have B3 := Lib.hid bel3
    have BSH := Lib.hid hbs
    have SC : Hid (∀ w', Below w3.heap.size w3 w' → ∀ j, j < ns.length → w'.cell? ⟨bS, j, none⟩ = some (.bool (seen.getD j false))) := fun w' hb j hj => by
      obtain ⟨b1, o1, ha1, hb1, hm1, e1⟩ := bool_at (hS.below (Nat.le_refl _) hb) j hj
      injection ha1 with ha1
      injection ha1 with q1 q3
      subst q1; subst q3
      rw [Nat.zero_add] at e1
      exact e1
    have PC : Hid (∀ w', Below w3.heap.size w3 w' → ∀ j, j < ns.length → ∃ ar cap, IsRec 1 cI 0 w' ar (P.getD j []).length (P.getD j []) ∧ w'.cell? ⟨bP, j, none⟩ = some (.slice ar (P.getD j []).length cap)) := fun w' hb j hj => by
      obtain ⟨b1, o1, ar, cap, ha1, _, _, hrr, e1⟩ := (hP.below (Nat.le_refl _) hb).at_ j hj
      injection ha1 with ha1
      injection ha1 with q1 q3
      subst q1; subst q3
      rw [Nat.zero_add] at e1
      exact ⟨ar, cap, hrr, e1⟩
    have UNI : Hid (∀ us : List Dp, us.Perm (depT23 ns.length cs x) → us.Pairwise (fun a b => ¬ keyLt b a) → rfA cs x.out s seen P ns.length (2 * cs.length) = us) := fun us h1 h2 => hbs.deps VH.out h1 h2
    have INN : Hid (∀ u, u < ns.length → seen.getD u false = true → u ≠ s → ∃ y k l : Nat, (P.getD u []).length = l + 1 ∧ (P.getD u []).getD l 0 = (k : Int) ∧ k < cs.length ∧ touchT (cs.getD k cb0) u y ∧ inC cs P u = leavV cs (k : Int) (y : Int)) := fun u hu hsu hne => by
      obtain ⟨y, k, h1, h2, _, h3, _, h4, _, _, _, _, h5⟩ := hbs.inn VH.out ((hbs.sn u hu).1 hsu) hne
      obtain ⟨l, hl⟩ : ∃ l, (P.getD u []).length = l + 1 := ⟨(P.getD u []).length - 1, by omega⟩
      unfold lastP at h2
      rw [hl, Nat.add_sub_cancel] at h2
      exact ⟨y, k, l, hl, h2, h3, touchT_symm h4, h5⟩
    have PB : Hid (∀ u, u < ns.length → seen.getD u false = true → (P.getD u []).length ≤ 1000) := fun u hu hsu => by
      obtain ⟨W, hc, hr, hWp, _⟩ := hbs.walk _ u ((hbs.sn u hu).1 hsu) rfl
      have := walk_len VH.out.I hc hr
      rw [← hWp, List.length_map]; omega
    have LA : Hid (∀ f, f ≤ 64 → (rfA cs x.out s seen P ns.length f).length ≤ 40000) := fun f hf => by
      have h1 := rfA_len (cs := cs) (s := s) (seen := seen) (P := P) (n := ns.length) RL.out f
      have : f * (ns.length * 32) ≤ 64 * (16 * 32) := Nat.mul_le_mul hf (Nat.mul_le_mul_right _ n16)
      omega
    have LL : Hid (∀ f k, k ≤ 16 → (rfL cs x.out s seen P f k).length ≤ 600) := fun f k hk => by
      have h1 := rfL_len (cs := cs) (s := s) (seen := seen) (P := P) (f := f) RL.out k
      have : k * 32 ≤ 16 * 32 := Nat.mul_le_mul_right _ hk
      omega
    have ST : Hid (RelD0 (rfA cs x.out s seen P ns.length) (2 * cs.length) w3 (.slice none 0 0) (.int .i64 0) w3) := ⟨0, Nat.zero_le _, rfl, World.ownsRow_nil _ _ _ _, Below.refl _ _⟩
    have hsn := VH.out.hs
    clear bel3 hbs hP hS RC s0 s1 t0 t1 t2 hs
    go_wp2_with fail
    go_loopw [8, 9] (fun v i wr => RelD0 (rfA cs x.out s seen P ns.length) (2 * cs.length) w3 v i wr) (fun _ i _ => 2 * cs.length - (RowKit.intOf i).toNat)
    case atStart => exact ST.out
    case round =>
      clear ST
      rename World => wo
      obtain ⟨f, hf, rfl, own, bel⟩ := hrel
      have OW := Lib.hid own
      have BE := Lib.hid bel
      have BB := Lib.hid (B3.out.trans (bel.mono B3.out.size))
      clear own bel
      obtain ⟨⟨c0, c1, t0, t1⟩, _⟩ := KC.out wo BB.out
      have q0 : IntKind.i64.wrap (2 * (cs.length : Int)) = 2 * (cs.length : Int) := IntWalk.i64_in _ (by omega)
      by_cases hfr : f < 2 * cs.length
      · have hfi : (f : Int) < 2 * (cs.length : Int) := by omega
        have ST1 : Hid (RelD0 (fun k => rfA cs x.out s seen P ns.length f ++ rfL cs x.out s seen P f k) ns.length w3 u8 (.int .i64 0) wo) := ⟨0, Nat.zero_le _, rfl, by simpa [rfL] using OW.out, BE.out⟩
        have LAF := LA.out f (by omega)
        have NX0 : Hid (∀ v wq, OwnD w3 (rfA cs x.out s seen P ns.length f ++ rfL cs x.out s seen P f ns.length) v wq → RelD0 (rfA cs x.out s seen P ns.length) (2 * cs.length) w3 v (.int .i64 ((f + 1 : Nat) : Int)) wq) := fun v wq ho => ⟨f + 1, by omega, rfl, by rw [rfA_succ]; exact ho⟩
        generalize rfA cs x.out s seen P ns.length f = preA at *
        clear OW BB
        go_wp2_with fail
        clear c0 c1 t0 t1 q0
        go_loopw [8, 10] (fun v i wr => RelD0 (fun k => preA ++ rfL cs x.out s seen P f k) ns.length w3 v i wr) (fun _ i _ => ns.length - (RowKit.intOf i).toNat)
        case atStart => exact ST1.out
        case round =>
          clear ST1 BE
          rename World => wi
          obtain ⟨k, hk, rfl, own, bel⟩ := hrel
          have OW := Lib.hid own
          have BE := Lib.hid bel
          have BB := Lib.hid (B3.out.trans (bel.mono B3.out.size))
          clear own bel
          obtain ⟨⟨c0, c1, t0, t1⟩, _⟩ := KC.out wi BB.out
          by_cases hkr : k < ns.length
          · have cs1 := SC.out wi BE.out k hkr
            have ki : (k : Int) < (ns.length : Int) := by omega
            have LLF := LL.out f k (by omega)
            have NX1 : Hid (∀ v wq, OwnD w3 (preA ++ rfL cs x.out s seen P f k ++ rfN cs x.out s seen P f k) v wq → RelD0 (fun k => preA ++ rfL cs x.out s seen P f k) ns.length w3 v (.int .i64 ((k + 1 : Nat) : Int)) wq) := fun v wq ho => ⟨k + 1, by omega, rfl, by show OwnD w3 (preA ++ rfL cs x.out s seen P f (k + 1)) v wq; rw [rfL_succ, ← List.append_assoc]; exact ho⟩
            have SKIP : Hid (rfN cs x.out s seen P f k = [] → ∀ wq, Below wi.heap.size wi wq → RelD0 (fun k => preA ++ rfL cs x.out s seen P f k) ns.length w3 u8 (.int .i64 ((k + 1 : Nat) : Int)) wq) := fun e wq hb => NX1.out u8 _ ⟨by rw [e, List.append_nil]; exact own_belowK OW.out hb, BE.out.trans (hb.mono BE.out.size)⟩
            have RN : Hid (rfN cs x.out s seen P f k = if seen.getD k false = true ∧ k ≠ s ∧ inC cs P k = (f : Int) then (x.out.getD k []).map (dpF cs (f : Int) k) else []) := rfl
            cases hsk : seen.getD k false with
            | false =>
              have R := Lib.hid (SKIP.out (by rw [RN.out, hsk]; simp) wi (Below.refl _ _))
              rw [hsk] at cs1
              clear hsk SKIP NX1 RN
              go_wp2_with fail
              exact ⟨by simpa using R.out, by simp [RowKit.intOf]; omega⟩
            | true =>
              have hsk2 := hsk
              rw [hsk] at cs1
              by_cases hks : k = s
              · have R := Lib.hid (SKIP.out (by rw [RN.out]; rw [if_neg (fun q => q.2.1 hks)]) wi (Below.refl _ _))
                have e9 : ((k : Int) == (s : Int)) = true := by simp [hks]
                clear hsk hsk2 SKIP NX1 RN hks
                go_wp2_with fail
                exact ⟨by simpa using R.out, by simp [RowKit.intOf]; omega⟩
              · have e9 : ((k : Int) == (s : Int)) = false := by simp; omega
                obtain ⟨y, q, l, hl, hq, hql, ht, hin⟩ := INN.out k hkr hsk hks
                have pbk := PB.out k hkr hsk
                obtain ⟨ar, cap, hrow, hcell⟩ := PC.out wi BE.out k hkr
                obtain ⟨rb, ro, har, hrb, _, heo⟩ := int_at hrow l (by omega)
                rw [hl] at hcell
                rw [hq] at heo
                have RN2 : Hid (rfN cs x.out s seen P f k = if leavV cs (q : Int) (y : Int) = (f : Int) then (x.out.getD k []).map (dpF cs (f : Int) k) else []) := by
                  rw [Hid, RN.out, hin]
                  by_cases e : leavV cs (q : Int) (y : Int) = (f : Int)
                  · rw [if_pos ⟨hsk, hks, e⟩, if_pos e]
                  · rw [if_neg (fun z => e z.2.2), if_neg e]
                have OC : Hid (∀ w', Below wi.heap.size wi w' → Calls Tryz.prog 67 #[.agg #[.slice An ns.length cn, .slice Ac cs.length cc], .int .i64 (q : Int), .int .i64 (k : Int)] w' fun e w'' => e = .returned (.int .i64 (y : Int)) ∧ Below wi.heap.size wi w'') := fun w' hb => by
                  have := Other17_any cs An Ac ns.length cn cc q (k : Int) w' (by omega) (H1.out.below (Nat.le_refl _) (BB.out.trans (hb.mono BB.out.size))).2 hql
                  rw [otherR HV.out (getD_mem (d := cb0) hql) ht] at this
                  exact this.mono fun e w'' h => ⟨h.1, hb.trans (h.2.mono hb.size)⟩
                have CY : Hid (∀ w', Below wi.heap.size wi w' → Calls Tryz.prog 66 #[.agg #[.slice An ns.length cn, .slice Ac cs.length cc], .int .i64 (q : Int), .int .i64 (y : Int)] w' fun e w'' => e = .returned (.int .i64 (leavV cs (q : Int) (y : Int))) ∧ Below wi.heap.size wi w'') := fun w' hb => (CC.out w' (BB.out.trans (hb.mono BB.out.size)) q y hql).mono fun e w'' h => ⟨h.1, hb.trans (h.2.mono hb.size)⟩
                subst har
                have k1 : IntKind.i64.wrap ((l : Int) + 1 - 1) = (l : Int) := by rw [show (l : Int) + 1 - 1 = (l : Int) by omega]; exact IntWalk.i64_in _ (by omega)
                have k2 : IntKind.i64.wrap (l : Int) = (l : Int) := IntWalk.i64_in _ (by omega)
                have k3 : (l : Int) < (l : Int) + 1 := by omega
                generalize leavV cs (q : Int) (y : Int) = lv at *
                clear hsk hsk2 RN hks hin hl hq ht hrow hrb pbk
                go_wp2_with fail
                go_quiet (fail)
                clear k1 k2 k3 hcell heo cs1 t0 t1 e9
                have KS : Hid (∀ w', Below wi.heap.size wi w' → w'.cell? ⟨w.heap.size, 0, none⟩ = some (.slice An ns.length cn) ∧ w'.cell? ⟨w.heap.size, 1, none⟩ = some (.slice Ac cs.length cc)) := fun w' hb => by
                  obtain ⟨⟨a0, a1, _⟩, _⟩ := KC.out w' (BB.out.trans (hb.mono BB.out.size))
                  exact ⟨a0, a1⟩
                go_wp2_with fail
                go_region_held3 (fun w' => w'.cell? ⟨w.heap.size, 0, none⟩ = some (.slice An ns.length cn) ∧ w'.cell? ⟨w.heap.size, 1, none⟩ = some (.slice Ac cs.length cc))
                  (first | exact ⟨c0, c1⟩ | (refine KS.out _ ?_; repeat (first | exact BX1.out | exact BX2.out | exact below_drewN (Below.refl _ _) _ | exact Below.refl _ _ | refine Below.drew ?_)))
                  (first
                    | (go_at_call 67; refine (OC.out _ (by repeat (first | exact below_drewN (Below.refl _ _) _ | exact Below.refl _ _ | refine Below.drew ?_))).mono ?_; rintro e wa ⟨rfl, bela⟩; have BX1 := Lib.hid bela; clear bela)
                    | (go_at_call 66; refine (CY.out _ (by repeat (first | exact BX1.out | refine Below.drew ?_))).mono ?_; rintro e wb ⟨rfl, belb⟩; have BX2 := Lib.hid belb; clear belb))
                all_goals
                  have BBb : Hid (Below w1.heap.size w1 wb) := BB.out.trans (BX2.out.mono BB.out.size)
                  have BEb : Hid (Below w3.heap.size w3 wb) := BE.out.trans (BX2.out.mono BE.out.size)
                  clear c0 c1 OC CY KS
                  by_cases hlf : lv = (f : Int)
                  · subst hlf
                    have RN3 : Hid (rfN cs x.out s seen P f k = (x.out.getD k []).map (dpF cs (f : Int) k)) := by rw [Hid, RN2.out, if_pos rfl]
                    have OWb := Lib.hid (own_belowK OW.out BX2.out)
                    obtain ⟨bo, oo, ar2, capr, hao, hbo, hmr, hrr, cr0⟩ := T1.out.out.at_ k (by rw [XL.out]; exact hkr)
                    have ko : (k : Int) < (x.out.length : Int) := by have := XL.out; omega
                    have ED := Lib.hid (EDG.out k)
                    have rl := RL.out k
                    have KR : Hid (∀ w', Below w1.heap.size w1 w' → w'.cell? ⟨w.heap.size, 0, none⟩ = some (.slice An ns.length cn) ∧ w'.cell? ⟨w.heap.size, 1, none⟩ = some (.slice Ac cs.length cc) ∧ w'.cell? ⟨w.heap.size + 1, 1, none⟩ = some (.slice (some ⟨bo, oo, none⟩) x.out.length cO) ∧ w'.cell? ⟨bo, oo + k, none⟩ = some (.slice ar2 (x.out.getD k []).length capr) ∧ IsRec 1 cI 0 w' ar2 (x.out.getD k []).length (x.out.getD k [])) := fun w' hb => by
                      obtain ⟨⟨a0, a1, _, a3⟩, _⟩ := KC.out w' hb
                      exact ⟨a0, a1, by rw [a3, hao], (hb.cell (by exact hbo)).trans cr0, hrr.below (Nat.le_refl _) hb⟩
                    have NX2 : Hid (∀ v wq, OwnD w3 (preA ++ rfL cs x.out s seen P f k ++ (x.out.getD k []).map (dpF cs (f : Int) k)) v wq → RelD0 (fun k => preA ++ rfL cs x.out s seen P f k) ns.length w3 v (.int .i64 ((k + 1 : Nat) : Int)) wq) := fun v wq ho => NX1.out v wq (by rw [RN3.out]; exact ho)
                    have hpl : (preA ++ rfL cs x.out s seen P f k).length ≤ 50000 := by rw [List.length_append]; omega
                    generalize x.out.getD k [] = row at *
                    generalize preA ++ rfL cs x.out s seen P f k = pre at *
                    have ST2 : Hid (RelD2 cs pre (f : Int) k row w3 u8 (.int .i64 0) wb) := ⟨0, Nat.zero_le _, rfl, by simpa using OWb.out, BEb.out⟩
                    clear hao hmr hrr cr0 RN2 RN3 SKIP NX1 OW OWb
                    go_wp2_with fail
                    go_loopw [8, 12] (fun v i wr => RelD2 cs pre (f : Int) k row w3 v i wr) (fun _ i _ => row.length - (RowKit.intOf i).toNat)
                    case atStart => exact ST2.out
                    case round =>
                      clear ST2 BEb BBb BX1 BX2
                      obtain ⟨j, hj, rfl, own, bel⟩ := hrel
                      have OW := Lib.hid own
                      have BF := Lib.hid bel
                      have BG := Lib.hid (B3.out.trans (bel.mono B3.out.size))
                      clear own bel
                      obtain ⟨c0, c1, t1, r1, hrow⟩ := KR.out wr BG.out
                      by_cases hjr : j < row.length
                      · obtain ⟨b3, o3, ha3, hb3, hm3, e3⟩ := int_at hrow j hjr
                        obtain ⟨z, hz, hzl⟩ := ED.out _ hm3
                        have TS := Lib.hid (take_snocG 0 row j hjr)
                        rw [hz] at e3 TS
                        subst ha3
                        have ji : (j : Int) < (row.length : Int) := by omega
                        have hlen : (pre ++ (row.take j).map (dpF cs (f : Int) k)).length ≤ 60000 := by rw [List.length_append, List.length_map, List.length_take]; omega
                        have CQ : Hid (∀ w', Below w1.heap.size w1 w' → Calls Tryz.prog 66 #[.agg #[.slice An ns.length cn, .slice Ac cs.length cc], .int .i64 (z : Int), .int .i64 (k : Int)] w' fun e w'' => e = .returned (.int .i64 (leavV cs (z : Int) (k : Int))) ∧ Below w'.heap.size w' w'') := fun w' hb => CC.out w' hb z k hzl
                        have FN : Hid (∀ v' (wq : World), wq.ownsRow w3.heap.size 68 3 v' ((pre ++ (row.take j).map (dpF cs (f : Int) k)).length + 1) ((pre ++ (row.take j).map (dpF cs (f : Int) k)).flatMap cD ++ cD ((f : Int), leavV cs (z : Int) (k : Int), (k : Int))) → Below w3.heap.size w3 wq → RelD2 cs pre (f : Int) k row w3 v' (.int .i64 ((j + 1 : Nat) : Int)) wq) := fun v' wq ho hb =>
                          ⟨j + 1, by omega, rfl, by
                            have h1 := own_snocR ho
                            rw [TS.out, List.map_append, List.map_cons, List.map_nil, ← List.append_assoc]
                            exact h1, hb⟩
                        generalize leavV cs (z : Int) (k : Int) = to2 at *
                        generalize hL : pre ++ (row.take j).map (dpF cs (f : Int) k) = L at *
                        have hz3 := B3.out.size
                        have hzF := BF.out.size
                        clear hm3 hz hL TS hrow
                        go_wp2_with fail
                        have ENT := enters_of (P := Tryz.prog) Tryz.func66 (by kernel_rfl) rfl
                        go_region_law
                          (first
                            | (refine step_call3 (by rfl) ENT (by rfl) (by rfl) (by rfl) (by rfl) (CQ.out _ (by repeat (first | exact BG.out | refine Below.drew ?_))) ?_
                               rintro e ws ⟨rfl, bels⟩
                               refine ⟨_, rfl, ?_⟩
                               have BLS : Hid (Below wr.heap.size wr ws) := (Below.refl _ _).drew.trans bels
                               have OWS := Lib.hid (own_belowK OW.out BLS.out)
                               clear bels)
                            | (refine step_append_any _ (by rfl) (.tmp 77) (.tmp 92) 65 (by rfl) w3.heap.size 68 i0 _ 3 24 Tryz.underlying65 hi0 hz0 hz1 hz2 rfl (by decide) _ L.length (L.flatMap cD) (by rfl) (by first | exact OWS.out.alloc _ | exact (OWS.out.alloc _).drew) (ws.heap.size + 1) (some ⟨ws.heap.size, 0, none⟩) 1 1 (cD ((f : Int), to2, (k : Int))) (by rfl) (reads_newD ws _ _ _ _) ?_ ?_ ?_ ?_ ?_; (intro u hu; simp [cD] at hu; rcases hu with rfl | rfl | rfl <;> rfl); (unfold maxLen; omega); omega; (simp; have := BLS.out.size; omega); intro v2 w6 own2 gr2 _))
                        all_goals
                          have zs := BLS.out.size
                          have BH : Hid (Below w3.heap.size w3 ws) := BF.out.trans (BLS.out.mono BF.out.size)
                          have R := Lib.hid (FN.out v2 w6 own2 (by first | exact (BH.out.alloc BH.out.size _).grown gr2 (by simp; omega) (fun g e => (OWS.out.lt g e).1) | exact ((BH.out.alloc BH.out.size _).drew).grown gr2 (by simp; omega) (fun g e => (OWS.out.lt g e).1)))
                          clear own2 gr2 FN c0 c1 t1 r1 e3
                          go_wp2_with fail
                          exact ⟨by simpa using R.out, by simp [RowKit.intOf]; omega⟩
                      · obtain rfl : j = row.length := by omega
                        rw [List.take_length] at OW
                        have R := Lib.hid (NX2.out u8 wr ⟨OW.out, BF.out⟩)
                        clear OW NX2
                        go_wp2_with fail
                        exact ⟨by simpa using R.out, by simp [RowKit.intOf]; omega⟩
                  · have e9 : (lv != (f : Int)) = true := by simp; exact hlf
                    have R := Lib.hid (SKIP.out (by rw [RN2.out, if_neg hlf]) wb BX2.out)
                    clear SKIP RN2 NX1 hlf
                    go_wp2_with fail
                    exact ⟨by simpa using R.out, by simp [RowKit.intOf]; omega⟩
          · obtain rfl : k = ns.length := by omega
            have R := Lib.hid (NX0.out u8 wi ⟨OW.out, BE.out⟩)
            clear OW NX0
            go_wp2_with fail
            exact ⟨by simpa using R.out, by simp [RowKit.intOf]; omega⟩
      · have hfi : ¬ (f : Int) < 2 * (cs.length : Int) := by omega
        obtain rfl : f = 2 * cs.length := by omega
        have F : Hid (RDPost ns cs x w (.returned u8) wo) := ⟨_, u8, rfl, UNI.out, own_mono OW.out (by have := BW0.out.size; have := B3.out.size; omega), (KC.out wo BB.out).2⟩
        clear OW
        go_wp2_with fail
        go_ret
        exact F.out
end Go.Proofs.YtljojgpjgjfddaaGreat
