/- The contract of certificate.Of: the canonical ranks of a plan and an order. -/
import Derived.Test.YtljojgpjgjfddaaGreatLPlc
import Derived.Test.YtljojgpjgjfddaaGreatLRnk
namespace Go.Proofs.YtljojgpjgjfddaaGreat
open Go.RowKit Go.Maps
set_option linter.unusedVariables false
set_option linter.unusedSimpArgs false

set_option maxRecDepth 100000 in
set_option maxHeartbeats 2000000 in
theorem certOf1_any (lv : List Int) (Al : Option Addr) (cl ga gn gp gP : Nat) (u v : Nat) (w : World) (hl : lv.length ≤ 1000000) (hu : u < lv.length) (hv : v < lv.length)
    (ca : w.cell? ⟨ga, 0, none⟩ = some (.slice Al lv.length cl)) (la : ga < w.heap.size) (cn : w.cell? ⟨gn, 0, none⟩ = some (.int .i64 (lv.length : Int))) (ln : gn < w.heap.size) (cp : w.cell? ⟨gp, 0, none⟩ = some (.slice (some ⟨gP, 0, none⟩) lv.length lv.length)) (lp : gp < w.heap.size)
    (h : IsRec 1 cI 0 w Al lv.length lv) (h2 : IsRec 1 cI 0 w (some ⟨gP, 0, none⟩) lv.length (placesL lv)) :
    Calls Tryz.prog 44 #[.int .i64 (u : Int), .int .i64 (v : Int), .pointer (some ⟨ga, 0, none⟩), .pointer (some ⟨gn, 0, none⟩), .pointer (some ⟨gp, 0, none⟩)] w fun e w' => e = .returned (.int .i64 (rankV lv (u : Int) (v : Int))) ∧ Below w.heap.size w w' := by
  have AB := Lib.hid (above_any lv Al cl (v : Int) (u : Int) w hl h)
  obtain ⟨bu, ou, hau, hbu, _, eu⟩ := int_at h u hu
  obtain ⟨bv, ov, hav, _, _, ev⟩ := int_at h v hv
  rw [hau] at hav
  injection hav with hav
  injection hav with q1 q2
  subst q1
  subst q2
  obtain ⟨b3, o3, ha3, hb3, _, pu⟩ := int_at h2 u hu
  obtain ⟨b4, o4, ha4, hb4, _, pv⟩ := int_at h2 v hv
  injection ha3 with ha3
  injection ha3 with q3 q4
  injection ha4 with ha4
  injection ha4 with q5 q6
  subst q3 q4 q5 q6
  rw [Nat.zero_add] at pu pv
  obtain ⟨ru0, ru1⟩ := placesL_range hu
  obtain ⟨rv0, rv1⟩ := placesL_range hv
  have F : Hid (rankV lv (u : Int) (v : Int) = if lv.getD u 0 < 0 ∨ lv.getD v 0 < 0 then -1 else if aboveB lv (v : Int) (u : Int) = true then (lv.length : Int) - 1 - (placesL lv).getD u 0 else (lv.length : Int) + (placesL lv).getD v 0) := rfl
  subst hau
  have u0 : (0 : Int) ≤ (u : Int) := by omega
  have v0 : (0 : Int) ≤ (v : Int) := by omega
  have u1 : (u : Int) < (lv.length : Int) := by omega
  have v1 : (v : Int) < (lv.length : Int) := by omega
  have KC : Hid (∀ w', Below w.heap.size w w' → w'.cell? ⟨gn, 0, none⟩ = some (.int .i64 (lv.length : Int)) ∧ w'.cell? ⟨gp, 0, none⟩ = some (.slice (some ⟨gP, 0, none⟩) lv.length lv.length) ∧ w'.cell? ⟨gP, u, none⟩ = some (.int .i64 ((placesL lv).getD u 0)) ∧ w'.cell? ⟨gP, v, none⟩ = some (.int .i64 ((placesL lv).getD v 0))) :=
    fun w' hb => ⟨(hb.cell (by exact ln)).trans cn, (hb.cell (by exact lp)).trans cp, (hb.cell (by exact hb3)).trans pu, (hb.cell (by exact hb3)).trans pv⟩
  generalize (placesL lv).getD u 0 = yu at *
  generalize (placesL lv).getD v 0 = yv at *
  generalize lv.getD u 0 = xu at *
  generalize lv.getD v 0 = xv at *
  clear h h2 pu pv cn cp
  by_cases h1 : xu < 0
  · have q1 : decide (xu < 0) = true := decide_eq_true h1
    rw [F.out, if_pos (.inl h1)]
    clear h1 F
    go_enter Tryz.func44, Tryz.ntmps44
    go_wp2_with fail
    go_ret
    exact ⟨rfl, Below.refl _ _⟩
  · have q1 : decide (xu < 0) = false := decide_eq_false h1
    by_cases h2 : xv < 0
    · have q2 : decide (xv < 0) = true := decide_eq_true h2
      rw [F.out, if_pos (.inr h2)]
      clear h1 h2 F
      go_enter Tryz.func44, Tryz.ntmps44
      go_wp2_with fail
      go_ret
      exact ⟨rfl, Below.refl _ _⟩
    · have q2 : decide (xv < 0) = false := decide_eq_false h2
      rw [F.out, if_neg (fun h => h.elim h1 h2)]
      clear h1 h2 F
      cases hab : aboveB lv (v : Int) (u : Int) with
      | true =>
        rw [hab] at AB
        rw [if_pos rfl]
        clear hab
        go_enter Tryz.func44, Tryz.ntmps44
        go_wp2_with fail
        refine (show Calls _ _ _ _ _ from AB.out).mono ?_
        rintro e w2 ⟨rfl, bel⟩
        obtain ⟨k0, k1, k2, k3⟩ := KC.out w2 bel
        have BE := Lib.hid bel
        have m1 : IntKind.i64.wrap ((lv.length : Int) - 1) = (lv.length : Int) - 1 := IntWalk.i64_in _ (by omega)
        have m2 : IntKind.i64.wrap ((lv.length : Int) - 1 - yu) = (lv.length : Int) - 1 - yu := IntWalk.i64_in _ (by omega)
        clear bel AB ca eu ev KC
        go_wp2_with fail
        go_quiet (fail)
        go_wp2_with fail
        go_ret
        exact ⟨rfl, below_drewN BE.out _⟩
      | false =>
        rw [hab] at AB
        rw [if_neg (by simp)]
        clear hab
        go_enter Tryz.func44, Tryz.ntmps44
        go_wp2_with fail
        refine (show Calls _ _ _ _ _ from AB.out).mono ?_
        rintro e w2 ⟨rfl, bel⟩
        obtain ⟨k0, k1, k2, k3⟩ := KC.out w2 bel
        have BE := Lib.hid bel
        have m1 : IntKind.i64.wrap ((lv.length : Int) + yv) = (lv.length : Int) + yv := IntWalk.i64_in _ (by omega)
        clear bel AB ca eu ev KC
        go_wp2_with fail
        go_quiet (fail)
        go_wp2_with fail
        go_ret
        exact ⟨rfl, below_drewN BE.out _⟩
theorem call2_run {P : Program} {a : Act} {w : World} {o : Oper} {c x y : Operand} {f : FuncId} {caps : Array Value} {ts : Array TypeId} {v v2 : Value} (hE : ∀ args w, (callFunc f args).run P w = .ok (.enter f args) w)
    (ho : o.op = Op.call { callee := Callee.value c, args := #[x, y], argTypes := ts }) (hc : a.eval c = .func (.func f) #[] caps) (hx : a.eval x = v) (hy : a.eval y = v2) : (execOp a.eval o).run P w = .ok (.enter f (#[v, v2] ++ caps)) w := by
  simp only [Act.eval, Array.getD_eq_getD_getElem?] at hc hx hy
  simp [execOp, ho, resolve, invoke, hE, go_sem, hc, hx, hy]
/-- A call of a closure with two arguments as one step of a region that draws. -/
theorem step_call2 {P : Program} {ops : Array Oper} {o : Oper} {a : Act} {w : World} {K : Act → World → Prop} {Q : Exit → Act → World → Prop} {E : Prop} (hg : o.guard = none) {c x y : Operand} {f : FuncId} {caps : Array Value} {ts : Array TypeId} {v v2 : Value} (hE : ∀ args w, (callFunc f args).run P w = .ok (.enter f args) w)
    (ho : o.op = Op.call { callee := Callee.value c, args := #[x, y], argTypes := ts }) (hc : a.eval c = .func (.func f) #[] caps) (hx : a.eval x = v) (hy : a.eval y = v2) {Post : Ending → World → Prop}
    (hcall : Calls P f (#[v, v2] ++ caps) w Post) (hK : ∀ e w', Post e w' → ∃ r, e = .returned r ∧ K (a.put o.dst r) w') : if Region.wanted o (yielded ops a.tmps) = true then Oper.wp P o a w K Q else E := by
  have hw : Region.wanted o (yielded ops a.tmps) = true := by simp [Region.wanted, hg]
  rw [if_pos hw]
  unfold Oper.wp
  rw [call2_run hE ho hc hx hy]
  exact hcall.mono fun e w' h => by
    obtain ⟨r, rfl, hk⟩ := hK e w' h
    exact hk
theorem reads_newL (w : World) (t : TypeId) (cs : Array Value) {n : Nat} (h : cs.size = n * 1) : Reads (w.alloc (.cells cs t)) (w.heap.size + 1) 1 (some ⟨w.heap.size, 0, none⟩) n cs.toList :=
  ⟨by simp [h], fun _ => ⟨_, rfl, by simp, fun q u hu => World.news_of_block (cs := cs) (t := t) (fr := (0, 0)) (heap_alloc_new w _) q u hu⟩⟩
theorem own_belowC {w w' : World} {base e m n : Nat} {v : Value} {xs : List Value} (h : w.ownsRow base e m v n xs) (hb : Below w.heap.size w w') : w'.ownsRow base e m v n xs :=
  ⟨h.1, by
    rcases h.2 with ⟨e1, h2⟩ | ⟨g, cap, cur, e1, h1, h2, h3⟩
    · exact .inl ⟨e1, h2⟩
    · exact .inr ⟨g, cap, cur, e1, h1, by rw [hb.block g (Array.getElem?_eq_some_iff.1 h2).1]; exact h2, h3⟩⟩
def rkTo (cs : List Cb) (lv : List Int) (k : Nat) : List Int := ranksV (cs.take k) lv
theorem rkTo_succ (cs : List Cb) (lv : List Int) (k : Nat) (hk : k < cs.length) : rkTo cs lv (k + 1) = rkTo cs lv k ++ [rankV lv (cs.getD k cb0).a (cs.getD k cb0).b, rankV lv (cs.getD k cb0).b (cs.getD k cb0).a] := by
  unfold rkTo ranksV
  rw [List.take_add_one, List.flatMap_append]
  simp [List.getD, hk]
theorem rkTo_len (cs : List Cb) (lv : List Int) (k : Nat) (hk : k ≤ cs.length) : (rkTo cs lv k).length = 2 * k := by
  unfold rkTo
  rw [ranksV_len, List.length_take, Nat.min_eq_left hk]
def RelCo (cs : List Cb) (lv : List Int) (w3 : World) (v i : Value) (wr : World) : Prop :=
  ∃ k : Nat, k ≤ cs.length ∧ i = .int .i64 k ∧ wr.ownsRow w3.heap.size 3 1 v (rkTo cs lv k).length ((rkTo cs lv k).flatMap cI) ∧ Below w3.heap.size w3 wr
def CofPost (cs : List Cb) (lv : List Int) (w : World) (e : Ending) (w' : World) : Prop :=
  ∃ v, e = .returned (.tuple #[v, .int .i64 0]) ∧ w'.ownsRow w.heap.size 3 1 v (ranksV cs lv).length ((ranksV cs lv).flatMap cI) ∧ Below w.heap.size w w'
set_option maxRecDepth 100000 in
set_option maxHeartbeats 4000000 in
theorem certOf_any (ns : List Nd) (cs : List Cb) (lv : List Int) (An Ac Al : Option Addr) (cn cc cl : Nat) (w : World) (hv : validP ⟨ns, cs⟩ = 0) (ho : orderB ⟨ns, cs⟩ lv = true) (hwf : WfP ⟨ns, cs⟩) (hwl : WfI lv) (h : IsPlan w An Ac ⟨ns, cs⟩) (h2 : IsRec 1 cI 0 w Al lv.length lv) :
    Calls Tryz.prog 10 #[.agg #[.slice An ns.length cn, .slice Ac cs.length cc], .agg #[.slice Al lv.length cl]] w (CofPost cs lv w) := by
  obtain ⟨n16, c32⟩ := valid_sizes hv
  obtain ⟨_, hll⟩ := orderB_len ho
  have hlive := live_order ho
  simp only at hll
  obtain ⟨w1, hw1⟩ : ∃ w1 : World, (w.alloc (.cells #[.slice An ns.length cn, .slice Ac cs.length cc] 25)).alloc (.cells #[.slice Al lv.length cl] 30) = w1 := ⟨_, rfl⟩
  have s0 : w1.cell? ⟨w.heap.size, 0, none⟩ = some (.slice An ns.length cn) := by rw [← hw1]; simp [go_sem]
  have s1 : w1.cell? ⟨w.heap.size, 1, none⟩ = some (.slice Ac cs.length cc) := by rw [← hw1]; simp [go_sem]
  have s2 : w1.cell? ⟨w.heap.size + 1, 0, none⟩ = some (.slice Al lv.length cl) := by rw [← hw1]; simp [go_sem]
  have sz1 : w1.heap.size = w.heap.size + 2 := by rw [← hw1]; simp
  have BW : Hid (Below w.heap.size w w1) := by rw [Hid, ← hw1]; exact ((Below.refl _ _).alloc (Nat.le_refl _) _).alloc (by simp) _
  have H1 := Lib.hid (h.below (Nat.le_refl _) BW.out)
  have L1 := Lib.hid (h2.below (Nat.le_refl _) BW.out)
  have KC : Hid (∀ w', Below w1.heap.size w1 w' → (w'.cell? ⟨w.heap.size, 0, none⟩ = some (.slice An ns.length cn) ∧ w'.cell? ⟨w.heap.size, 1, none⟩ = some (.slice Ac cs.length cc) ∧ w'.cell? ⟨w.heap.size + 1, 0, none⟩ = some (.slice Al lv.length cl)) ∧ IsPlan w' An Ac ⟨ns, cs⟩ ∧ IsRec 1 cI 0 w' Al lv.length lv ∧ Below w.heap.size w w') :=
    fun w' hb => ⟨⟨(hb.cell (by show w.heap.size < _; omega)).trans s0, (hb.cell (by show w.heap.size < _; omega)).trans s1, (hb.cell (by show w.heap.size + 1 < _; omega)).trans s2⟩, H1.out.below (Nat.le_refl _) hb, L1.out.below (Nat.le_refl _) hb, BW.out.trans (hb.mono BW.out.size)⟩
  have OV := Lib.hid (order_any ⟨ns, cs⟩ lv An Ac Al cn cc cl w1 (by show ns.length ≤ _; omega) (by show cs.length ≤ _; omega) hwf (by omega) hwl H1.out L1.out)
  rw [ho] at OV
  have HW1 := Lib.hid hw1
  have HV := Lib.hid hv
  have HLL := Lib.hid hll
  have SZ1 := Lib.hid sz1
  have HLV := Lib.hid hlive
  obtain ⟨i0, hi0, hz0, hz1, hz2⟩ := info_parts infoInt
  clear h h2 hw1 hwf hwl hv ho hll sz1 hlive
  go_enter Tryz.func10, Tryz.ntmps10
  go_wp2_with fail
  rw [HW1.out]
  refine (show Calls _ _ _ _ _ from OV.out).mono ?_
  rintro e w2 ⟨rfl, bel2⟩
  obtain ⟨⟨c0, c1, c2⟩, pl2, lr2, bw2⟩ := KC.out w2 bel2
  have B2 := Lib.hid bel2
  have l0 : w.heap.size < w2.heap.size := by have := bel2.size; have := SZ1.out; omega
  have l1 : w.heap.size + 1 < w2.heap.size := by have := bel2.size; have := SZ1.out; omega
  have n0 : ¬ w.heap.size = w2.heap.size := by omega
  have n1 : ¬ w.heap.size + 1 = w2.heap.size := by omega
  obtain ⟨w3, hw3⟩ : ∃ w3 : World, w2.alloc (.cells #[.int .i64 (ns.length : Int)] 3) = w3 := ⟨_, rfl⟩
  have b23 : Below w2.heap.size w2 w3 := by rw [← hw3]; exact (Below.refl _ _).alloc (Nat.le_refl _) _
  have B3 : Hid (Below w1.heap.size w1 w3) := bel2.trans (b23.mono bel2.size)
  have N3 : Hid (Blk w3 w2.heap.size 3 #[.int .i64 (ns.length : Int)]) := by rw [← hw3]; exact Blk.new _ _ _
  have PC := Lib.hid (places_any lv Al cl w3 (by have := HLL.out; omega) HLV.out (lr2.below (Nat.le_refl _) b23))
  have HW3 := Lib.hid hw3
  clear OV bel2 s0 s1 s2 bw2 pl2 lr2 hw3 b23 HW1
  go_wp2_with fail
  rw [HW3.out]
  clear c0 c1 c2 l0 l1 n0 n1
  refine (show Calls _ _ _ _ _ from PC.out).mono ?_
  rintro e w4 ⟨g, hg, rfl, rp4, bel4⟩
  obtain ⟨w5, hw5⟩ : ∃ w5 : World, w4.alloc (.cells #[.slice (some ⟨g, 0, none⟩) lv.length lv.length] 28) = w5 := ⟨_, rfl⟩
  have b45 : Below w4.heap.size w4 w5 := by rw [← hw5]; exact (Below.refl _ _).alloc (Nat.le_refl _) _
  have b35 : Below w3.heap.size w3 w5 := bel4.trans (b45.mono bel4.size)
  have B5 : Hid (Below w1.heap.size w1 w5) := B3.out.trans (b35.mono B3.out.size)
  have N5 := Lib.hid (N3.out.below b35 N3.out.lt)
  have P5 : Hid (Blk w5 w4.heap.size 28 #[.slice (some ⟨g, 0, none⟩) lv.length lv.length]) := by rw [← hw5]; exact Blk.new _ _ _
  have RP5 := Lib.hid (rp4.below (Nat.le_refl _) b45)
  obtain ⟨⟨c0, c1, c2⟩, pl4, lr4, bw4⟩ := KC.out w4 (B3.out.trans (bel4.mono B3.out.size))
  have l0 : w.heap.size < w4.heap.size := by have := bel4.size; have := B3.out.size; have := SZ1.out; omega
  have n0 : ¬ w.heap.size = w4.heap.size := by omega
  have HW5 := Lib.hid hw5
  have CR : Hid (∀ (w' : World) (u v : Nat), Below w5.heap.size w5 w' → u < lv.length → v < lv.length → Calls Tryz.prog 44 (#[.int .i64 (u : Int), .int .i64 (v : Int)] ++ #[.pointer (some ⟨w.heap.size + 1, 0, none⟩), .pointer (some ⟨w2.heap.size, 0, none⟩), .pointer (some ⟨w4.heap.size, 0, none⟩)]) w' fun e w'' => e = .returned (.int .i64 (rankV lv (u : Int) (v : Int))) ∧ Below w'.heap.size w' w'') := fun w' u v hb hu hv' => by
    obtain ⟨⟨_, _, d2⟩, _, lr', _⟩ := KC.out w' (B5.out.trans (hb.mono B5.out.size))
    have n' := N5.out.below hb N5.out.lt
    have p' := P5.out.below hb P5.out.lt
    exact certOf1_any lv Al cl (w.heap.size + 1) w2.heap.size w4.heap.size g u v w' (by have := HLL.out; omega) hu hv' d2 (by have := hb.size; have := B5.out.size; have := SZ1.out; omega) (by rw [HLL.out]; exact n'.one.1) n'.lt p'.one.1 p'.lt lr' (RP5.out.below (Nat.le_refl _) hb)
  have ST : Hid (RelCo cs lv w5 (.slice none 0 0) (.int .i64 0) w5) := ⟨0, Nat.zero_le _, rfl, World.ownsRow_nil _ _ _ _, Below.refl _ _⟩
  clear PC bel4 rp4 pl4 lr4 bw4 hw5 b45 b35 HW3
  go_wp2_with fail
  rw [HW5.out]
  go_loopw [9, 25] (fun v i wr => RelCo cs lv w5 v i wr) (fun _ i _ => cs.length - (RowKit.intOf i).toNat)
  case atStart => exact ST.out
  case round =>
    clear ST c0 c1 c2 l0 n0
    obtain ⟨k, hk, rfl, own, bel⟩ := hrel
    have BE := Lib.hid bel
    have hkl := rkTo_len cs lv k hk
    obtain ⟨⟨c0, c1, _⟩, plr, _, bwr⟩ := KC.out wr (B5.out.trans (bel.mono B5.out.size))
    have BWR := Lib.hid bwr
    clear bwr
    by_cases hkr : k < cs.length
    · obtain ⟨bb, off, ha, hbb, hmem, e0, e1, e2, e3, e4, e5⟩ := cable_at plr.2 k hkr
      have CS := Lib.hid (rkTo_succ cs lv k hkr)
      obtain ⟨⟨a0, a1⟩, b0, b1⟩ := cab_node HV.out hmem
      generalize cs.getD k cb0 = x at *
      obtain ⟨xa, xap, xb, xbp, xdl, xcp⟩ := x
      simp only at e0 e1 e2 e3 e4 e5 a0 a1 b0 b1 CS
      obtain ⟨a, rfl⟩ : ∃ a : Nat, xa = a := ⟨xa.toNat, by omega⟩
      obtain ⟨b, rfl⟩ : ∃ b : Nat, xb = b := ⟨xb.toNat, by omega⟩
      subst ha
      obtain ⟨wv, hwv⟩ : ∃ wv : World, wr.alloc (.cells #[.int .i64 (a : Int), .int .i64 xap, .int .i64 (b : Int), .int .i64 xbp, .int .i64 xdl, .int .i64 xcp] 85) = wv := ⟨_, rfl⟩
      have bv : Below wr.heap.size wr wv := by rw [← hwv]; exact (Below.refl _ _).alloc (Nat.le_refl _) _
      have BV : Hid (Below w5.heap.size w5 wv) := bel.trans (bv.mono bel.size)
      have V : Blk wv wr.heap.size 85 #[.int .i64 (a : Int), .int .i64 xap, .int .i64 (b : Int), .int .i64 xbp, .int .i64 xdl, .int .i64 xcp] := by rw [← hwv]; exact Blk.new _ _ _
      have OWNV : Hid (wv.ownsRow w5.heap.size 3 1 u9 (rkTo cs lv k).length ((rkTo cs lv k).flatMap cI)) := by rw [← hwv]; exact own.alloc _
      have KV : Hid (∀ w', Below wv.heap.size wv w' → (w'.cell? ⟨wr.heap.size, 0, none⟩ = some (.int .i64 (a : Int)) ∧ w'.cell? ⟨wr.heap.size, 2, none⟩ = some (.int .i64 (b : Int))) ∧ w'.ownsRow w5.heap.size 3 1 u9 (rkTo cs lv k).length ((rkTo cs lv k).flatMap cI) ∧ Below w5.heap.size w5 w') :=
        fun w' hb => ⟨⟨(hb.cell V.lt).trans (V.cell 0), (hb.cell V.lt).trans (V.cell 2)⟩, own_belowC OWNV.out hb, BV.out.trans (hb.mono BV.out.size)⟩
      obtain ⟨⟨x0, x2⟩, _, _⟩ := KV.out wv (Below.refl _ _)
      have CA : Hid (∀ w', Below wv.heap.size wv w' → Calls Tryz.prog 44 (#[.int .i64 (a : Int), .int .i64 (b : Int)] ++ #[.pointer (some ⟨w.heap.size + 1, 0, none⟩), .pointer (some ⟨w2.heap.size, 0, none⟩), .pointer (some ⟨w4.heap.size, 0, none⟩)]) w' fun e w'' => e = .returned (.int .i64 (rankV lv (a : Int) (b : Int))) ∧ Below w'.heap.size w' w'') :=
        fun w' hb => CR.out w' a b (BV.out.trans (hb.mono BV.out.size)) (by have := HLL.out; omega) (by have := HLL.out; omega)
      have CB : Hid (∀ w', Below wv.heap.size wv w' → Calls Tryz.prog 44 (#[.int .i64 (b : Int), .int .i64 (a : Int)] ++ #[.pointer (some ⟨w.heap.size + 1, 0, none⟩), .pointer (some ⟨w2.heap.size, 0, none⟩), .pointer (some ⟨w4.heap.size, 0, none⟩)]) w' fun e w'' => e = .returned (.int .i64 (rankV lv (b : Int) (a : Int))) ∧ Below w'.heap.size w' w'') :=
        fun w' hb => CR.out w' b a (BV.out.trans (hb.mono BV.out.size)) (by have := HLL.out; omega) (by have := HLL.out; omega)
      have k1 : (k : Int) < (cs.length : Int) := by omega
      have OG : Hid (∀ q, u9.ownBlock = some q → w5.heap.size ≤ q) := fun q e => (own.lt q e).1
      have HWV := Lib.hid hwv
      generalize rankV lv (a : Int) (b : Int) = r1 at *
      generalize rankV lv (b : Int) (a : Int) = r2 at *
      generalize rkTo cs lv k = L at *
      have ENT := enters_of (P := Tryz.prog) Tryz.func44 (by kernel_rfl) rfl
      clear own bel plr hmem hwv bv V a0 a1 b0 b1 CR
      go_wp2_with fail
      rw [HWV.out]
      clear e0 e1 e2 e3 e4 e5
      go_region_law
        (first
          | (refine step_call2 (by rfl) ENT (by rfl) (by rfl) (by rfl) (by rfl) (CA.out _ (by first | exact Below.refl _ _ | exact (Below.refl _ _).drew)) ?_
             rintro e wa ⟨rfl, belA⟩
             refine ⟨_, rfl, ?_⟩
             have BA : Hid (Below wv.heap.size wv wa) := by first | exact belA | exact (Below.refl _ _).drew.trans belA
             obtain ⟨⟨xa0, xa2⟩, _, _⟩ := KV.out wa BA.out
             clear belA)
          | (refine step_call2 (by rfl) ENT (by rfl) (by rfl) (by rfl) (by rfl) (CB.out _ (by first | exact BA.out | exact BA.out.drew)) ?_
             rintro e wb ⟨rfl, belB⟩
             refine ⟨_, rfl, ?_⟩
             have BB : Hid (Below wv.heap.size wv wb) := BA.out.trans (belB.mono BA.out.size)
             obtain ⟨_, ownB, bB⟩ := KV.out wb BB.out
             have OWB := Lib.hid ownB
             have B5B := Lib.hid bB
             clear belB ownB bB)
          | (refine step_append_any _ (by rfl) (.tmp 29) (.tmp 42) 42 (by rfl) w5.heap.size 3 i0 _ 1 8 Tryz.underlying42 hi0 hz0 hz1 hz2 rfl (by decide) _ _ _ (by rfl) (by first | exact OWB.out.alloc _ | exact (OWB.out.alloc _).drew) (wb.heap.size + 1) (some ⟨wb.heap.size, 0, none⟩) 2 2 [.int .i64 r1, .int .i64 r2] (by rfl) (reads_newL wb 3 #[.int .i64 r1, .int .i64 r2] rfl) ?_ ?_ ?_ ?_ ?_; (intro u hu; simp at hu; rcases hu with rfl | rfl <;> rfl); (unfold maxLen; omega); omega; (simp; have := B5B.out.size; omega); intro v' w6 own6 gr6 loc6))
      all_goals
        have R : Hid (RelCo cs lv w5 v' (.int .i64 ((k + 1 : Nat) : Int)) w6) := by
          refine ⟨k + 1, by omega, rfl, ?_, ?_⟩
          · rw [CS.out, List.length_append, List.flatMap_append]
            exact own6
          · first
              | exact (B5B.out.alloc B5B.out.size _).grown gr6 (by simp; have := B5B.out.size; omega) (fun q e => OG.out q e)
              | exact ((B5B.out.alloc B5B.out.size _).drew).grown gr6 (by simp; have := B5B.out.size; omega) (fun q e => OG.out q e)
        clear own6 gr6 loc6
        go_wp2_with fail
        exact ⟨by simpa using R.out, by simp [RowKit.intOf]; omega⟩
    · obtain rfl : k = cs.length := by omega
      have F : Hid (CofPost cs lv w (.returned (.tuple #[u9, .int .i64 0])) wr) := by
        refine ⟨_, rfl, ?_, BWR.out⟩
        have e : rkTo cs lv cs.length = ranksV cs lv := by unfold rkTo; rw [List.take_length]
        rw [e] at own
        exact own_mono own (by have := B5.out.size; have := SZ1.out; omega)
      clear own bel plr hkl
      go_wp2_with fail
      go_ret2
      exact F.out
end Go.Proofs.YtljojgpjgjfddaaGreat
