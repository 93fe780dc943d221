/- The contract of the law's verdict: it answers as Check does. -/
import Derived.Test.YtjhbjifhponciaaLExact
namespace Go.Proofs.Ytjhbjifhponciaa
open Go.RowKit Go.Maps
set_option linter.unusedVariables false

theorem endsR_yes {cs : List Cb} {c : Int} (h0 : 0 ≤ c) (h1 : c < 2 * cs.length) : endsR cs c = ((chEnds cs c).1, (chEnds cs c).2, true) := by
  unfold endsR; rw [if_pos]; simp [existsN]; omega
theorem endsR_no {cs : List Cb} {c : Int} (h : existsN cs.length c = false) : endsR cs c = (0, 0, false) := by
  unfold endsR; rw [if_neg]; rw [h]; simp
theorem atR_iff {cs : List Cb} {c node : Int} : atR cs c node = true ↔ c ∈ chansAt cs node := by
  rw [mem_chansAt]
  cases hx : existsN cs.length c with
  | false =>
    unfold atR; rw [endsR_no hx]
    simp [existsN] at hx
    constructor
    · intro h; simp at h
    · rintro ⟨h0, h1, _⟩; have := hx h0; omega
  | true =>
    have hb : 0 ≤ c ∧ c < 2 * cs.length := by simpa [existsN] using hx
    unfold atR; rw [endsR_yes hb.1 hb.2]
    unfold chEnds atB
    split <;> simp [hb.1, hb.2] <;> omega
theorem atTo_eq (cs : List Cb) (node : Int) : (atTo cs node (2 * cs.length)).map (fun c : Nat => (c : Int)) = chansAt cs node := by
  have s1 : ((atTo cs node (2 * cs.length)).map (fun c : Nat => (c : Int))).Pairwise (· < ·) := by
    rw [List.pairwise_map]
    unfold atTo
    refine (List.pairwise_lt_range.sublist List.filter_sublist).imp ?_
    intro a b h; omega
  have s2 : (chansAt cs node).Pairwise (· < ·) := chTo_sorted cs node cs.length
  have nd : ∀ {l : List Int}, l.Pairwise (· < ·) → l.Nodup := fun h => h.imp (fun {a b} hab => by omega)
  have hp : ((atTo cs node (2 * cs.length)).map (fun c : Nat => (c : Int))).Perm (chansAt cs node) := by
    refine (List.perm_ext_iff_of_nodup (nd s1) (nd s2)).2 fun x => ?_
    rw [List.mem_map, mem_chansAt]
    constructor
    · rintro ⟨c, hc, rfl⟩
      unfold atTo at hc
      rw [List.mem_filter] at hc
      exact mem_chansAt.1 (atR_iff.1 hc.2)
    · intro hx
      refine ⟨x.toNat, ?_, by omega⟩
      unfold atTo
      rw [List.mem_filter, List.mem_range]
      have e : ((x.toNat : Nat) : Int) = x := by omega
      exact ⟨by omega, by rw [e]; exact atR_iff.2 (mem_chansAt.2 hx)⟩
  refine List.Perm.eq_of_pairwise (le := fun a b => a < b) ?_ s1 s2 hp
  intro a b _ _ h1 h2; omega
theorem sort_mem {E : Ens} {x : Int} : x ∈ sortE E ↔ x ∈ keysE E := by unfold sortE; exact List.mem_mergeSort
theorem exact_cond (cs : List Cb) (E : Ens) (node : Int) : ((atTo cs node (2 * cs.length)).all fun c => (sortE E).any fun x => x == (c : Int)) = ((chansAt cs node).all fun c => (lookE E c).isSome) := by
  rw [← atTo_eq, List.all_map]
  congr 1
  funext c
  rw [Bool.eq_iff_iff, List.any_eq_true]
  show _ ↔ (lookE E (c : Int)).isSome = true
  rw [lookE_some]
  constructor
  · rintro ⟨x, hx, e⟩
    have : x = c := by simpa using e
    rw [← this]; exact sort_mem.1 hx
  · intro h
    exact ⟨c, sort_mem.2 h, by simp⟩
theorem chans_le {cs : List Cb} {E : Ens} {node : Int} (h : ((chansAt cs node).all fun c => (lookE E c).isSome) = true) : (chansAt cs node).length ≤ E.length := by
  have hs : (chansAt cs node).Subset (keysE E) := fun c hc => lookE_some.1 (List.all_eq_true.1 h c hc)
  have nd : (chansAt cs node).Nodup := (chTo_sorted cs node cs.length).imp (fun {a b} hab => by omega)
  have := List.Nodup.length_le_of_subset nd hs
  simpa [keysE] using this
theorem exact_7 {cs : List Cb} {E : Ens} {node : Int} (h : ((chansAt cs node).all fun c => (lookE E c).isSome) = false) : exactE cs (sortE E) node = 7 := by
  unfold exactE; rw [exact_cond, if_pos h]
theorem exact_8 {cs : List Cb} {E : Ens} {node : Int} (h : ((chansAt cs node).all fun c => (lookE E c).isSome) = true) (h2 : E.length ≠ (chansAt cs node).length) : exactE cs (sortE E) node = 8 := by
  unfold exactE
  have e : (atTo cs node (2 * cs.length)).length = (chansAt cs node).length := by rw [← atTo_eq, List.length_map]
  have := chans_le h
  rw [exact_cond, if_neg (by rw [h]; simp), if_pos (by rw [e, sortE_length]; omega)]
theorem exact_0 {cs : List Cb} {E : Ens} {node : Int} (h : ((chansAt cs node).all fun c => (lookE E c).isSome) = true) (h2 : E.length = (chansAt cs node).length) : exactE cs (sortE E) node = 0 := by
  unfold exactE
  have e : (atTo cs node (2 * cs.length)).length = (chansAt cs node).length := by rw [← atTo_eq, List.length_map]
  rw [exact_cond, if_neg (by rw [h]; simp), if_neg (by rw [e, sortE_length]; omega)]
theorem fitsR_eq {ns : List Nd} {cs : List Cb} {node : Int} (h : isNodeB ns node = true) (f t n : Int) : fitsR cs f t n node = fitsB ⟨ns, cs⟩ (f, t, n) node := by
  unfold fitsB fitsR
  rw [show isNodeB (Pl.mk ns cs).ns node = true from h, show existsB (Pl.mk ns cs).cs (f, t, n).1 = existsN cs.length f from rfl, show existsB (Pl.mk ns cs).cs (f, t, n).2.1 = existsN cs.length t from rfl]
  cases hf : existsN cs.length f with
  | false => rw [endsR_no hf]; simp
  | true =>
    cases ht : existsN cs.length t with
    | false => rw [endsR_no ht]; simp
    | true =>
      have bf : 0 ≤ f ∧ f < 2 * cs.length := by simpa [existsN] using hf
      have bt : 0 ≤ t ∧ t < 2 * cs.length := by simpa [existsN] using ht
      rw [endsR_yes bf.1 bf.2, endsR_yes bt.1 bt.2]
      rw [Bool.eq_iff_iff]
      simp
      omega

set_option maxRecDepth 100000 in
set_option maxHeartbeats 4000000 in
theorem verdict_any (p : Pl) (An Ac ad : Option Addr) (cn cc cd : Nat) (m : Option Nat) (x : Pt) (w : World) (hl : p.ns.length ≤ 1000000) (hl2 : p.cs.length ≤ 1000000) (hld : x.deps.length ≤ 1000000) (hlr : x.ranks.length ≤ 1000000) (hwd : WfD x.deps)
    (h : IsPlan w An Ac p) (hd : IsRec 3 cD d0 w ad x.deps.length x.deps) (hm : IMV w m x.ranks) :
    Calls Try.prog 22 #[.agg #[.slice An p.ns.length cn, .slice Ac p.cs.length cc], .agg #[.int .i64 x.node, .slice ad x.deps.length cd, .map m]] w fun e w' => e = .returned (.int .i64 (checkErr p x)) ∧ Below w.heap.size w w' := by
  obtain ⟨ns, cs⟩ := p
  obtain ⟨node, ds, E⟩ := x
  simp only at hl hl2 hld hlr hwd hd hm ⊢
  have HWD := Lib.hid hwd
  obtain ⟨w1, hw1⟩ : ∃ w1 : World, (w.alloc (.cells #[.slice An ns.length cn, .slice Ac cs.length cc] 25)).alloc (.cells #[.int .i64 node, .slice ad ds.length cd, .map m] 41) = w1 := ⟨_, rfl⟩
  have s0 : w1.cell? ⟨w.heap.size, 0, none⟩ = some (.slice An ns.length cn) := by rw [← hw1]; simp [go_sem]
  have s1 : w1.cell? ⟨w.heap.size, 1, none⟩ = some (.slice Ac cs.length cc) := by rw [← hw1]; simp [go_sem]
  have t0 : w1.cell? ⟨w.heap.size + 1, 0, none⟩ = some (.int .i64 node) := by rw [← hw1]; simp [go_sem]
  have t1 : w1.cell? ⟨w.heap.size + 1, 1, none⟩ = some (.slice ad ds.length cd) := by rw [← hw1]; simp [go_sem]
  have t2 : w1.cell? ⟨w.heap.size + 1, 2, none⟩ = some (.map m) := by rw [← hw1]; simp [go_sem]
  have sz1 : w.heap.size + 1 < w1.heap.size := by rw [← hw1]; simp
  have BW0 : Below w.heap.size w w1 := by rw [← hw1]; exact ((Below.refl _ _).alloc (Nat.le_refl _) _).alloc (by simp) _
  have BW := Lib.hid BW0
  have H1 := Lib.hid (h.below (Nat.le_refl _) BW0)
  have D1 := Lib.hid (hd.below (Nat.le_refl _) BW0)
  have M1 := Lib.hid (hm.below BW0 (Nat.le_refl _))
  have HW1 := Lib.hid hw1
  clear h hd hm hw1 hwd BW0
  have KC : Hid (∀ w', Below w1.heap.size w1 w' → w'.cell? ⟨w.heap.size, 0, none⟩ = some (.slice An ns.length cn) ∧ w'.cell? ⟨w.heap.size, 1, none⟩ = some (.slice Ac cs.length cc) ∧ w'.cell? ⟨w.heap.size + 1, 0, none⟩ = some (.int .i64 node) ∧ w'.cell? ⟨w.heap.size + 1, 1, none⟩ = some (.slice ad ds.length cd) ∧ w'.cell? ⟨w.heap.size + 1, 2, none⟩ = some (.map m) ∧ w.heap.size + 1 < w'.heap.size) :=
    fun w' hb => ⟨(hb.cell (by show w.heap.size < _; omega)).trans s0, (hb.cell (by show w.heap.size < _; omega)).trans s1, (hb.cell (by exact sz1)).trans t0, (hb.cell (by exact sz1)).trans t1, (hb.cell (by exact sz1)).trans t2, by have := hb.size; omega⟩
  by_cases hv : validP ⟨ns, cs⟩ = 0
  · have HV := Lib.hid hv
    clear hv
    go_enter Try.func22, Try.ntmps22
    go_wp2_with fail
    rw [HW1.out]
    refine (r14valid_any ⟨ns, cs⟩ An Ac cn cc _ hl hl2 H1.out).mono ?_
    rintro e w2 ⟨rfl, bel2⟩
    rw [HV.out]
    obtain ⟨u0, u1, v0, v1, v2, sz2⟩ := KC.out w2 bel2
    have B2 := Lib.hid bel2
    have BF2 : Hid (Below w.heap.size w w2) := BW.out.trans (bel2.mono (by omega))
    clear bel2 s0 s1 t0 t1 t2
    cases hin : isNodeB ns node with
    | false =>
      have FIN := Lib.hid (chk2 (x := ⟨node, ds, E⟩) HV.out hin)
      have hb : node < 0 ∨ (0 ≤ node ∧ (ns.length : Int) ≤ node) := by
        simp [isNodeB] at hin
        rcases Int.lt_or_le node 0 with h | h
        · exact .inl h
        · exact .inr ⟨h, hin h⟩
      clear hin
      rcases hb with h1 | ⟨h1, h2⟩
      all_goals
        go_wp2_with fail
        go_ret
        exact ⟨by rw [FIN.out]; rfl, BF2.out⟩
    | true =>
      have HIN := Lib.hid hin
      have hb : 0 ≤ node ∧ node < ns.length := by simpa [isNodeB] using hin
      obtain ⟨n0, n1⟩ := hb
      clear hin
      have M2 := Lib.hid (M1.out.below B2.out (Nat.le_refl _))
      have C2 := Lib.hid ((H1.out.below (Nat.le_refl _) B2.out).2)
      have sz20 : w.heap.size < w2.heap.size := by omega
      have KP : Hid (∀ w', Below w2.heap.size w2 w' → w'.cell? ⟨w.heap.size, 0, none⟩ = some (.slice An ns.length cn) ∧ w'.cell? ⟨w.heap.size, 1, none⟩ = some (.slice Ac cs.length cc) ∧ w'.cell? ⟨w.heap.size + 1, 0, none⟩ = some (.int .i64 node) ∧ w'.cell? ⟨w.heap.size + 1, 2, none⟩ = some (.map m)) :=
        fun w' hb => by
          obtain ⟨k0, k1, k2, k3, k4, _⟩ := KC.out w' (B2.out.trans (hb.mono B2.out.size))
          exact ⟨k0, k1, k2, k4⟩
      go_wp2_with fail
      go_region_held3 (fun w' => w'.cell? ⟨w.heap.size, 0, none⟩ = some (.slice An ns.length cn) ∧ w'.cell? ⟨w.heap.size, 1, none⟩ = some (.slice Ac cs.length cc) ∧ w'.cell? ⟨w.heap.size + 1, 0, none⟩ = some (.int .i64 node) ∧ w'.cell? ⟨w.heap.size + 1, 2, none⟩ = some (.map m))
        (first | exact KP.out _ ((Below.refl _ _).drew) | exact KP.out _ BC.out | exact KP.out _ BX.out)
        (first
          | (go_at_call 18; refine (channels_any m E _ (by exact M2.out) hlr).mono ?_; rintro e wc ⟨vc, rfl, ownc, belc⟩; have BC : Hid (Below w2.heap.size w2 wc) := ((Below.refl _ _).drew).trans belc; obtain ⟨ac, cpc, rfl, _, rcc, _⟩ := rec_of_own (d := (0 : Int)) cI_length (by decide) ownc; have RCC := Lib.hid rcc; clear rcc ownc belc)
          | (go_at_call 17; refine (exact_any cs (sortE E) An Ac ac ns.length cn cc cpc node _ hl2 (by rw [sortE_length]; exact hlr) (C2.out.below (Nat.le_refl _) BC.out) RCC.out).mono ?_; rintro e wx ⟨rfl, belx⟩; have BX : Hid (Below w2.heap.size w2 wx) := BC.out.trans (belx.mono BC.out.size); clear belx))
      all_goals
        have BF : Hid (Below w.heap.size w wx) := BF2.out.trans (BX.out.mono (by omega))
        cases hall : ((chansAt cs node).all fun c => (lookE E c).isSome) with
        | false =>
          have FIN := Lib.hid (chk7 (p := ⟨ns, cs⟩) (x := ⟨node, ds, E⟩) HV.out HIN.out hall)
          rw [exact_7 hall]
          clear hall u0 u1 v0 v1 v2 RCC BC KP
          go_wp2_with fail
          go_ret
          exact ⟨by rw [FIN.out]; rfl, BF.out⟩
        | true =>
          by_cases hle : E.length = (chansAt cs node).length
          · have CE := Lib.hid (chkD (p := ⟨ns, cs⟩) (x := ⟨node, ds, E⟩) HV.out HIN.out hall hle)
            rw [exact_0 hall hle]
            have B5 := Lib.hid (B2.out.trans (BX.out.mono B2.out.size))
            clear hall hle u0 u1 v0 v1 v2 RCC BC KP
            obtain ⟨u0, u1, v0, v1, v2, sz5⟩ := KC.out wx B5.out
            obtain ⟨R, hRd⟩ : ∃ R : Int, checkErr ⟨ns, cs⟩ ⟨node, ds, E⟩ = R := ⟨_, rfl⟩
            have HRD := Lib.hid hRd
            have D5 := Lib.hid (D1.out.below (Nat.le_refl _) B5.out)
            have H5 := Lib.hid (H1.out.below (Nat.le_refl _) B5.out)
            have MM5 := Lib.hid (M1.out.below B5.out (Nat.le_refl _))
            have BF5 := Lib.hid BF.out
            clear hRd
            obtain ⟨w5, rfl⟩ : ∃ w5 : World, w5 = wx := ⟨_, rfl⟩
            have ST : Hid (RelDe ⟨ns, cs⟩ node E ds R w5 (.int .i64 0) w5) := ⟨0, Nat.zero_le _, rfl, HRD.out.symm.trans CE.out, Below.refl _ _⟩
            go_wp2_with fail
            go_loopw [35] (fun i wr => RelDe ⟨ns, cs⟩ node E ds R w5 i wr) (fun i _ => ds.length - (RowKit.intOf i).toNat)
            case atStart => exact ST.out
            case round =>
              clear u0 u1 v0 v1 v2
              obtain ⟨k, hk, rfl, hR, bel⟩ := hrel
              have HR := Lib.hid hR
              have bs := bel.size
              clear hR
              have B6 := Lib.hid (B5.out.trans (bel.mono B5.out.size))
              obtain ⟨u0, u1, v0, v1, v2, sz6⟩ := KC.out wr B6.out
              by_cases hkr : k < ds.length
              · obtain ⟨bb, off, ha, hbb, hmem, c0, c1, c2⟩ := dep_at (D5.out.below (Nat.le_refl _) bel) k hkr
                have DS := Lib.hid (depsErr_step ⟨ns, cs⟩ node E ds k hkr)
                have wd := HWD.out _ hmem
                generalize ds.getD k d0 = x at *
                obtain ⟨df, dt, dn⟩ := x
                simp only at c0 c1 c2 DS wd
                obtain ⟨wdf, wdt, _⟩ := wd
                subst ha
                clear hmem
                have HP6 := Lib.hid ((H5.out.below (Nat.le_refl _) bel).alloc (.cells #[.int .i64 df, .int .i64 dt, .int .i64 dn] 36))
                have BA := Lib.hid (bel.alloc bs (.cells #[.int .i64 df, .int .i64 dt, .int .i64 dn] 36))
                have sz7 : w.heap.size < wr.heap.size := by omega
                have sz8 : w.heap.size + 1 < wr.heap.size := by omega
                have FQ := Lib.hid (fitsR_eq (cs := cs) HIN.out df dt dn)
                cases hx : fitsB ⟨ns, cs⟩ (df, dt, dn) node with
                | false =>
                  have FIN : Hid (R = 3) := by rw [Hid, HR.out, DS.out, if_pos hx]
                  have HX := Lib.hid (FQ.out.trans hx)
                  clear hx DS HR
                  go_wp2_with fail
                  refine (rfits_any cs An Ac ns.length cn cc df dt dn node _ hl2 HP6.out.2 _ HX.out).mono ?_
                  rintro e w7 ⟨rfl, bel7⟩
                  have BF : Hid (Below w.heap.size w w7) := BF5.out.trans ((BA.out.mono (by omega)).trans (bel7.mono (by simp; omega)))
                  clear bel7
                  go_wp2_with fail
                  go_ret
                  exact ⟨by rw [HRD.out, FIN.out]; rfl, BF.out⟩
                | true =>
                  have HX := Lib.hid (FQ.out.trans hx)
                  rw [if_neg (by rw [hx]; simp)] at DS
                  clear hx
                  go_wp2_with fail
                  refine (rfits_any cs An Ac ns.length cn cc df dt dn node _ hl2 HP6.out.2 _ HX.out).mono ?_
                  rintro e w7 ⟨rfl, bel7⟩
                  have B7 := Lib.hid (BA.out.trans (bel7.mono (by simp; omega)))
                  have m7 := MM5.out.below B7.out (Nat.le_refl _)
                  have r1 := m7.look (t := 39) Try.underlying3 Try.underlying3 Try.underlying39 (zeroInt _) wdf
                  have r2 := m7.look (t := 39) Try.underlying3 Try.underlying3 Try.underlying39 (zeroInt _) wdt
                  have x0 : w7.cell? ⟨wr.heap.size, 0, none⟩ = some (.int .i64 df) := (bel7.cell (by simp)).trans (by simp [go_sem])
                  have x1 : w7.cell? ⟨wr.heap.size, 1, none⟩ = some (.int .i64 dt) := (bel7.cell (by simp)).trans (by simp [go_sem])
                  have x2 : w7.cell? ⟨w.heap.size + 1, 2, none⟩ = some (.map m) := (KC.out w7 (B5.out.trans (B7.out.mono B5.out.size))).2.2.2.2.1
                  have BF : Hid (Below w.heap.size w w7) := BF5.out.trans (B7.out.mono (by omega))
                  change Sem.run _ _ _ = Result.ok (Value.int .i64 (rankE E df)) _ at r1
                  change Sem.run _ _ _ = Result.ok (Value.int .i64 (rankE E dt)) _ at r2
                  generalize rankE E df = rf at *
                  generalize rankE E dt = rt at *
                  clear bel7 m7 u0 u1 v0 v1 v2
                  by_cases hle : rt ≤ rf
                  · have FIN : Hid (R = 11) := by rw [Hid, HR.out, DS.out, if_pos hle]
                    clear DS HR
                    go_wp2_with fail
                    go_ret
                    exact ⟨by rw [HRD.out, FIN.out]; rfl, BF.out⟩
                  · have RR : Hid (RelDe ⟨ns, cs⟩ node E ds R w5 (.int .i64 ((k + 1 : Nat) : Int)) w7) := ⟨k + 1, by omega, rfl, by rw [HR.out, DS.out, if_neg hle], B7.out⟩
                    have hlt : rf < rt := by omega
                    clear DS HR hle
                    go_wp2_with fail
                    exact ⟨by simpa using RR.out, by simp [RowKit.intOf]; omega⟩
              · obtain rfl : k = ds.length := by omega
                have FIN : Hid (R = 0) := by rw [Hid, HR.out, List.drop_length]; rfl
                have BF : Hid (Below w.heap.size w wr) := BF5.out.trans (bel.mono (by omega))
                clear HR
                go_wp2_with fail
                go_ret
                exact ⟨by rw [HRD.out, FIN.out]; rfl, BF.out⟩
          · have FIN := Lib.hid (chk8 (p := ⟨ns, cs⟩) (x := ⟨node, ds, E⟩) HV.out HIN.out hall hle)
            rw [exact_8 hall hle]
            clear hall hle u0 u1 v0 v1 v2 RCC BC KP
            go_wp2_with fail
            go_ret
            exact ⟨by rw [FIN.out]; rfl, BF.out⟩
  · have FIN := Lib.hid (chk1 (p := ⟨ns, cs⟩) (x := ⟨node, ds, E⟩) hv)
    have q1 : (validP ⟨ns, cs⟩ != 0) = true := by simpa using hv
    clear hv
    go_enter Try.func22, Try.ntmps22
    go_wp2_with fail
    rw [HW1.out]
    refine (r14valid_any ⟨ns, cs⟩ An Ac cn cc _ hl hl2 H1.out).mono ?_
    rintro e w2 ⟨rfl, bel2⟩
    have BW2 := Lib.hid (BW.out.trans (bel2.mono (by omega)))
    clear bel2 s0 s1 t0 t1 t2
    go_wp2_with fail
    go_ret
    exact ⟨by rw [FIN.out]; rfl, BW2.out⟩
end Go.Proofs.Ytjhbjifhponciaa
