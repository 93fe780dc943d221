/- The contract of local.Check. -/
import Derived.Test.YtljojgpjgjfddaaLAwake
namespace Go.Proofs.Ytljojgpjgjfddaa
open Go.RowKit Go.Maps
set_option linter.unusedVariables false

def rankE (E : Ens) (c : Int) : Int := (lookE E c).getD 0
/-- What the dependencies of a part come to. -/
def depsErr (p : Pl) (node : Int) (E : Ens) : List Dp → Int
  | [] => 0
  | d :: l => if fitsB p d node = false then 3 else if rankE E d.2.1 ≤ rankE E d.1 then 11 else depsErr p node E l
def checkErr (p : Pl) (x : Pt) : Int :=
  if validP p ≠ 0 then 1 else if isNodeB p.ns x.node = false then 2 else if ((chansAt p.cs x.node).all fun c => (lookE x.ranks c).isSome) = false then 7
  else if x.ranks.length ≠ (chansAt p.cs x.node).length then 8 else depsErr p x.node x.ranks x.deps
section
variable {p : Pl} {x : Pt}
theorem chk1 (h : validP p ≠ 0) : checkErr p x = 1 := by unfold checkErr; rw [if_pos h]
theorem chk2 (h : validP p = 0) (h2 : isNodeB p.ns x.node = false) : checkErr p x = 2 := by unfold checkErr; rw [if_neg (by simp [h]), if_pos h2]
theorem chk7 (h : validP p = 0) (h2 : isNodeB p.ns x.node = true) (h3 : ((chansAt p.cs x.node).all fun c => (lookE x.ranks c).isSome) = false) : checkErr p x = 7 := by
  unfold checkErr; rw [if_neg (by simp [h]), if_neg (by rw [h2]; simp), if_pos h3]
theorem chk8 (h : validP p = 0) (h2 : isNodeB p.ns x.node = true) (h3 : ((chansAt p.cs x.node).all fun c => (lookE x.ranks c).isSome) = true) (h4 : x.ranks.length ≠ (chansAt p.cs x.node).length) : checkErr p x = 8 := by
  unfold checkErr; rw [if_neg (by simp [h]), if_neg (by rw [h2]; simp), if_neg (by rw [h3]; simp), if_pos h4]
theorem chkD (h : validP p = 0) (h2 : isNodeB p.ns x.node = true) (h3 : ((chansAt p.cs x.node).all fun c => (lookE x.ranks c).isSome) = true) (h4 : x.ranks.length = (chansAt p.cs x.node).length) : checkErr p x = depsErr p x.node x.ranks x.deps := by
  unfold checkErr; rw [if_neg (by simp [h]), if_neg (by rw [h2]; simp), if_neg (by rw [h3]; simp), if_neg (by simp [h4])]
end
theorem depsErr_step (p : Pl) (node : Int) (E : Ens) (ds : List Dp) (k : Nat) (h : k < ds.length) :
    depsErr p node E (ds.drop k) = if fitsB p (ds.getD k d0) node = false then 3 else if rankE E (ds.getD k d0).2.1 ≤ rankE E (ds.getD k d0).1 then 11 else depsErr p node E (ds.drop (k + 1)) := by
  have e : ds.drop k = ds.getD k d0 :: ds.drop (k + 1) := by
    rw [List.drop_eq_getElem_cons h]
    simp [List.getD, h]
  rw [e, depsErr]
def RelDe (p : Pl) (node : Int) (E : Ens) (ds : List Dp) (R : Int) (w1 : World) (i : Value) (wr : World) : Prop :=
  ∃ k : Nat, k ≤ ds.length ∧ i = .int .i64 k ∧ R = depsErr p node E (ds.drop k) ∧ Below w1.heap.size w1 wr

set_option maxRecDepth 100000 in
set_option maxHeartbeats 4000000 in
theorem check_any (p : Pl) (An Ac ad : Option Addr) (cn cc cd : Nat) (m : Option Nat) (x : Pt) (w : World) (hl : p.ns.length ≤ 1000000) (hl2 : p.cs.length ≤ 1000000) (hwf : WfP p) (hld : x.deps.length ≤ 1000000) (hlr : x.ranks.length ≤ 1000000) (hwd : WfD x.deps)
    (h : IsPlan w An Ac p) (hd : IsRec 3 cD d0 w ad x.deps.length x.deps) (hm : IMV w m x.ranks) :
    Calls Try.prog 13 #[.agg #[.slice An p.ns.length cn, .slice Ac p.cs.length cc], .agg #[.int .i64 x.node, .slice ad x.deps.length cd, .map m]] w fun e w' => e = .returned (.int .i64 (checkErr p x)) ∧ Below w.heap.size w w' := by
  obtain ⟨ns, cs⟩ := p
  obtain ⟨node, ds, E⟩ := x
  simp only at hl hl2 hld hlr hwd hd hm ⊢
  have HW := Lib.hid hwf
  have HWD := Lib.hid hwd
  obtain ⟨w1, hw1⟩ : ∃ w1 : World, (w.alloc (.cells #[.slice An ns.length cn, .slice Ac cs.length cc] 25)).alloc (.cells #[.int .i64 node, .slice ad ds.length cd, .map m] 32) = w1 := ⟨_, rfl⟩
  have s0 : w1.cell? ⟨w.heap.size, 0, none⟩ = some (.slice An ns.length cn) := by rw [← hw1]; simp [go_sem]
  have s1 : w1.cell? ⟨w.heap.size, 1, none⟩ = some (.slice Ac cs.length cc) := by rw [← hw1]; simp [go_sem]
  have t0 : w1.cell? ⟨w.heap.size + 1, 0, none⟩ = some (.int .i64 node) := by rw [← hw1]; simp [go_sem]
  have t1 : w1.cell? ⟨w.heap.size + 1, 1, none⟩ = some (.slice ad ds.length cd) := by rw [← hw1]; simp [go_sem]
  have t2 : w1.cell? ⟨w.heap.size + 1, 2, none⟩ = some (.map m) := by rw [← hw1]; simp [go_sem]
  have sz1 : w.heap.size + 1 < w1.heap.size := by rw [← hw1]; simp
  have BW0 : Below w.heap.size w w1 := by rw [← hw1]; exact ((Below.refl _ _).alloc (Nat.le_refl _) _).alloc (by simp) _
  have BW := Lib.hid BW0
  have H1 := Lib.hid (h.below (Nat.le_refl _) BW0)
  have D1 := Lib.hid (hd.below (Nat.le_refl _) BW0)
  have M1 := Lib.hid (hm.below BW0 (Nat.le_refl _))
  have HW1 := Lib.hid hw1
  clear h hd hm hw1 hwf hwd BW0
  have KC : Hid (∀ w', Below w1.heap.size w1 w' → w'.cell? ⟨w.heap.size, 0, none⟩ = some (.slice An ns.length cn) ∧ w'.cell? ⟨w.heap.size, 1, none⟩ = some (.slice Ac cs.length cc) ∧ w'.cell? ⟨w.heap.size + 1, 0, none⟩ = some (.int .i64 node) ∧ w'.cell? ⟨w.heap.size + 1, 1, none⟩ = some (.slice ad ds.length cd) ∧ w'.cell? ⟨w.heap.size + 1, 2, none⟩ = some (.map m) ∧ w.heap.size + 1 < w'.heap.size) :=
    fun w' hb => ⟨(hb.cell (by show w.heap.size < _; omega)).trans s0, (hb.cell (by show w.heap.size < _; omega)).trans s1, (hb.cell (by exact sz1)).trans t0, (hb.cell (by exact sz1)).trans t1, (hb.cell (by exact sz1)).trans t2, by have := hb.size; omega⟩
  by_cases hv : validP ⟨ns, cs⟩ = 0
  · have HV := Lib.hid hv
    clear hv
    cases hin : isNodeB ns node with
    | false =>
      have FIN := Lib.hid (chk2 (x := ⟨node, ds, E⟩) HV.out hin)
      have HIN := Lib.hid hin
      clear hin
      go_enter Try.func13, Try.ntmps13
      go_wp2_with fail
      rw [HW1.out]
      refine (gvalid_any ⟨ns, cs⟩ An Ac cn cc _ hl hl2 HW.out H1.out).mono ?_
      rintro e w2 ⟨rfl, bel2⟩
      rw [HV.out]
      obtain ⟨u0, u1, v0, v1, v2, sz2⟩ := KC.out w2 bel2
      have B2 := Lib.hid bel2
      clear bel2 s0 s1 t0 t1 t2
      go_wp2_with fail
      refine (isnode_any ns An Ac cn cs.length cc node _ hl).mono ?_
      rintro e w3 ⟨rfl, rfl⟩
      rw [HIN.out]
      have BF : Hid (Below w.heap.size w (w2.alloc (.cells #[.slice An ns.length cn, .slice Ac cs.length cc] 25))) := (BW.out.trans (B2.out.mono (by omega))).alloc (by omega) _
      go_wp2_with fail
      go_ret
      exact ⟨by rw [FIN.out]; rfl, BF.out⟩
    | true =>
      have HIN := Lib.hid hin
      clear hin
      go_enter Try.func13, Try.ntmps13
      go_wp2_with fail
      rw [HW1.out]
      refine (gvalid_any ⟨ns, cs⟩ An Ac cn cc _ hl hl2 HW.out H1.out).mono ?_
      rintro e w2 ⟨rfl, bel2⟩
      rw [HV.out]
      obtain ⟨u0, u1, v0, v1, v2, sz2⟩ := KC.out w2 bel2
      have B2 := Lib.hid bel2
      clear bel2 s0 s1 t0 t1 t2
      go_wp2_with fail
      refine (isnode_any ns An Ac cn cs.length cc node _ hl).mono ?_
      rintro e w3 ⟨rfl, hw3⟩
      rw [HIN.out]
      have B3 : Below w1.heap.size w1 w3 := by rw [← hw3]; exact B2.out.alloc B2.out.size _
      clear u0 u1 v0 v1 v2 hw3
      obtain ⟨u0, u1, v0, v1, v2, sz3⟩ := KC.out w3 B3
      have BB3 := Lib.hid B3
      have C3 := Lib.hid ((H1.out.below (Nat.le_refl _) B3).2)
      clear B3 B2
      go_wp2_with fail
      refine (chansat_any cs An Ac ns.length cn cc node _ hl2 C3.out).mono ?_
      rintro e w4 ⟨vv, rfl, own4, bel4⟩
      obtain ⟨Al, cl, rfl, hcl, rec4, hA4⟩ := rec_of_own (d := (0 : Int)) cI_length (by decide) own4
      have B4 : Below w1.heap.size w1 w4 := BB3.out.trans (bel4.mono BB3.out.size)
      have BB4 := Lib.hid B4
      have L4 := Lib.hid rec4
      have M4 := Lib.hid (M1.out.below B4 (Nat.le_refl _))
      clear u0 u1 v0 v1 v2
      obtain ⟨u0, u1, v0, v1, v2, sz4⟩ := KC.out w4 B4
      have ll : (chansAt cs node).length ≤ 2 * cs.length := chTo_length cs node cs.length
      have WL : Hid (∀ c ∈ chansAt cs node, 0 ≤ c ∧ c < 2 * cs.length) := fun c hc => chTo_mem cs node cs.length c hc
      have C7 : Hid (((chansAt cs node).all fun c => (lookE E c).isSome) = false → checkErr ⟨ns, cs⟩ ⟨node, ds, E⟩ = 7) := fun h => chk7 HV.out HIN.out h
      have C8 : Hid (((chansAt cs node).all fun c => (lookE E c).isSome) = true → E.length ≠ (chansAt cs node).length → checkErr ⟨ns, cs⟩ ⟨node, ds, E⟩ = 8) := fun h h2 => chk8 HV.out HIN.out h h2
      have CD : Hid (((chansAt cs node).all fun c => (lookE E c).isSome) = true → E.length = (chansAt cs node).length → checkErr ⟨ns, cs⟩ ⟨node, ds, E⟩ = depsErr ⟨ns, cs⟩ node E ds) := fun h h2 => chkD HV.out HIN.out h h2
      clear own4 bel4 rec4 hA4 B4 hcl
      generalize chansAt cs node = l at *
      go_wp2_with fail
      go_loopw [26] (fun i wr => RelAll (fun c : Int => (lookE E c).isSome) l w4.heap.size w4 i wr) (fun i _ => l.length - (RowKit.intOf i).toNat)
      case atStart => exact ⟨0, Nat.zero_le _, rfl, rfl, Below.refl _ _⟩
      case round =>
        clear u0 u1 v0 v1 v2
        obtain ⟨k, hk, rfl, hall, bel⟩ := hrel
        have bs := bel.size
        have HA := Lib.hid hall
        clear hall
        have B5 := Lib.hid (BB4.out.trans (bel.mono BB4.out.size))
        obtain ⟨u0, u1, v0, v1, v2, sz5⟩ := KC.out wr B5.out
        by_cases hkr : k < l.length
        · obtain ⟨bl, offl, ha, hbl, hmem, cl0⟩ := int_at (L4.out.below (Nat.le_refl _) bel) k hkr
          have AS := Lib.hid (all_snoc (fun c : Int => (lookE E c).isSome) 0 l k hkr)
          have AB := Lib.hid (all_bad (fun c : Int => (lookE E c).isSome) 0 l k hkr)
          have wl := WL.out _ hmem
          generalize l.getD k 0 = c at *
          subst ha
          have wfc : (Lit.int .i64 c).wf = true := wf_small _ (by omega) (by omega)
          have r1 := (M4.out.below bel (Nat.le_refl _)).look_ok (t := 30) Try.underlying3 Try.underlying3 Try.underlying30 (zeroInt _) wfc
          clear hmem wl
          cases hx : (lookE E c).isSome with
          | false =>
            rw [hx] at r1
            have FIN := Lib.hid (C7.out (AB.out hx))
            have BF : Hid (Below w.heap.size w wr) := BW.out.trans (B5.out.mono (by omega))
            clear hx AS AB HA
            go_wp2_with fail
            go_ret
            exact ⟨by rw [FIN.out]; rfl, BF.out⟩
          | true =>
            rw [hx] at r1
            have R : Hid (RelAll (fun c : Int => (lookE E c).isSome) l w4.heap.size w4 (.int .i64 ((k + 1 : Nat) : Int)) wr) := ⟨k + 1, by omega, rfl, by rw [AS.out, HA.out, hx]; rfl, bel⟩
            clear hx AS AB HA
            go_wp2_with fail
            exact ⟨by simpa using R.out, by simp [RowKit.intOf]; omega⟩
        · obtain rfl : k = l.length := by omega
          rw [List.take_length] at HA
          have M5 := M4.out.below bel (Nat.le_refl _)
          have r1 := fun ty => M5.len (t := 30) Try.underlying30 ty
          by_cases hle : E.length = l.length
          · have q1 : ((E.length : Int) != (l.length : Int)) = false := by simp [hle]
            have CE := Lib.hid (CD.out HA.out hle)
            have D5 := Lib.hid (D1.out.below (Nat.le_refl _) B5.out)
            have H5 := Lib.hid (H1.out.below (Nat.le_refl _) B5.out)
            have MM5 := Lib.hid M5
            have BF5 : Hid (Below w.heap.size w wr) := BW.out.trans (B5.out.mono (by omega))
            clear hle HA C7 C8 CD M5 H1 D1 L4 M4 BB4 bel bs
            obtain ⟨R, hRd⟩ : ∃ R : Int, checkErr ⟨ns, cs⟩ ⟨node, ds, E⟩ = R := ⟨_, rfl⟩
            have HRD := Lib.hid hRd
            clear hRd
            generalize E.length = el at *
            obtain ⟨w5, rfl⟩ : ∃ w5 : World, w5 = wr := ⟨_, rfl⟩
            have ST : Hid (RelDe ⟨ns, cs⟩ node E ds R w5 (.int .i64 0) w5) := ⟨0, Nat.zero_le _, rfl, HRD.out.symm.trans CE.out, Below.refl _ _⟩
            go_wp2_with fail
            go_loopw [49] (fun i wr => RelDe ⟨ns, cs⟩ node E ds R w5 i wr) (fun i _ => ds.length - (RowKit.intOf i).toNat)
            case atStart => exact ST.out
            case round =>
              clear u0 u1 v0 v1 v2 r1
              obtain ⟨k, hk, rfl, hR, bel⟩ := hrel
              have HR := Lib.hid hR
              have bs := bel.size
              clear hR
              have B6 := Lib.hid (B5.out.trans (bel.mono B5.out.size))
              obtain ⟨u0, u1, v0, v1, v2, sz6⟩ := KC.out wr B6.out
              by_cases hkr : k < ds.length
              · obtain ⟨bb, off, ha, hbb, hmem, c0, c1, c2⟩ := dep_at (D5.out.below (Nat.le_refl _) bel) k hkr
                have DS := Lib.hid (depsErr_step ⟨ns, cs⟩ node E ds k hkr)
                have wd := HWD.out _ hmem
                generalize ds.getD k d0 = x at *
                obtain ⟨df, dt, dn⟩ := x
                simp only at c0 c1 c2 DS wd
                obtain ⟨wdf, wdt, _⟩ := wd
                subst ha
                clear hmem
                have HP6 := Lib.hid ((H5.out.below (Nat.le_refl _) bel).alloc (.cells #[.int .i64 df, .int .i64 dt, .int .i64 dn] 49))
                have BA := Lib.hid (bel.alloc bs (.cells #[.int .i64 df, .int .i64 dt, .int .i64 dn] 49))
                have sz7 : w.heap.size < wr.heap.size := by omega
                have sz8 : w.heap.size + 1 < wr.heap.size := by omega
                cases hx : fitsB ⟨ns, cs⟩ (df, dt, dn) node with
                | false =>
                  have FIN : Hid (R = 3) := by rw [Hid, HR.out, DS.out, if_pos hx]
                  have HX := Lib.hid hx
                  clear hx DS HR
                  go_wp2_with fail
                  refine (fits_any2 ns cs An Ac cn cc df dt dn node _ hl hl2 HP6.out _ HX.out).mono ?_
                  rintro e w7 ⟨rfl, bel7⟩
                  have BF : Hid (Below w.heap.size w w7) := BF5.out.trans ((BA.out.mono (by omega)).trans (bel7.mono (by simp; omega)))
                  clear bel7
                  go_wp2_with fail
                  go_ret
                  exact ⟨by rw [HRD.out, FIN.out]; rfl, BF.out⟩
                | true =>
                  have HX := Lib.hid hx
                  rw [if_neg (by rw [hx]; simp)] at DS
                  clear hx
                  go_wp2_with fail
                  refine (fits_any2 ns cs An Ac cn cc df dt dn node _ hl hl2 HP6.out _ HX.out).mono ?_
                  rintro e w7 ⟨rfl, bel7⟩
                  have B7 := Lib.hid (BA.out.trans (bel7.mono (by simp; omega)))
                  have m7 := MM5.out.below B7.out (Nat.le_refl _)
                  have r1 := m7.look (t := 30) Try.underlying3 Try.underlying3 Try.underlying30 (zeroInt _) wdf
                  have r2 := m7.look (t := 30) Try.underlying3 Try.underlying3 Try.underlying30 (zeroInt _) wdt
                  have x0 : w7.cell? ⟨wr.heap.size, 0, none⟩ = some (.int .i64 df) := (bel7.cell (by simp)).trans (by simp [go_sem])
                  have x1 : w7.cell? ⟨wr.heap.size, 1, none⟩ = some (.int .i64 dt) := (bel7.cell (by simp)).trans (by simp [go_sem])
                  have x2 : w7.cell? ⟨w.heap.size + 1, 2, none⟩ = some (.map m) := (KC.out w7 (B5.out.trans (B7.out.mono B5.out.size))).2.2.2.2.1
                  have BF : Hid (Below w.heap.size w w7) := BF5.out.trans (B7.out.mono (by omega))
                  change Sem.run _ _ _ = Result.ok (Value.int .i64 (rankE E df)) _ at r1
                  change Sem.run _ _ _ = Result.ok (Value.int .i64 (rankE E dt)) _ at r2
                  generalize rankE E df = rf at *
                  generalize rankE E dt = rt at *
                  clear bel7 m7 u0 u1 v0 v1 v2
                  by_cases hle : rt ≤ rf
                  · have FIN : Hid (R = 11) := by rw [Hid, HR.out, DS.out, if_pos hle]
                    clear DS HR
                    go_wp2_with fail
                    go_ret
                    exact ⟨by rw [HRD.out, FIN.out]; rfl, BF.out⟩
                  · have RR : Hid (RelDe ⟨ns, cs⟩ node E ds R w5 (.int .i64 ((k + 1 : Nat) : Int)) w7) := ⟨k + 1, by omega, rfl, by rw [HR.out, DS.out, if_neg hle], B7.out⟩
                    have hlt : rf < rt := by omega
                    clear DS HR hle
                    go_wp2_with fail
                    exact ⟨by simpa using RR.out, by simp [RowKit.intOf]; omega⟩
              · obtain rfl : k = ds.length := by omega
                have FIN : Hid (R = 0) := by rw [Hid, HR.out, List.drop_length]; rfl
                have BF : Hid (Below w.heap.size w wr) := BF5.out.trans (bel.mono (by omega))
                clear HR
                go_wp2_with fail
                go_ret
                exact ⟨by rw [HRD.out, FIN.out]; rfl, BF.out⟩
          · have q1 : ((E.length : Int) != (l.length : Int)) = true := by simp; omega
            have FIN := Lib.hid (C8.out HA.out hle)
            have BF : Hid (Below w.heap.size w wr) := BW.out.trans (B5.out.mono (by omega))
            clear hle HA C7 C8 CD M5
            go_wp2_with fail
            go_ret
            exact ⟨by rw [FIN.out]; rfl, BF.out⟩
  · have FIN := Lib.hid (chk1 (p := ⟨ns, cs⟩) (x := ⟨node, ds, E⟩) hv)
    have q1 : (validP ⟨ns, cs⟩ != 0) = true := by simpa using hv
    clear hv
    go_enter Try.func13, Try.ntmps13
    go_wp2_with fail
    rw [HW1.out]
    refine (gvalid_any ⟨ns, cs⟩ An Ac cn cc _ hl hl2 HW.out H1.out).mono ?_
    rintro e w2 ⟨rfl, bel2⟩
    have BW2 := Lib.hid (BW.out.trans (bel2.mono (by omega)))
    clear bel2 s0 s1 t0 t1 t2
    go_wp2_with fail
    go_ret
    exact ⟨by rw [FIN.out]; rfl, BW2.out⟩
end Go.Proofs.Ytljojgpjgjfddaa
