/- The contract of the law's own agree: it answers as Agree does. -/
import Derived.Test.YtjhbjifhponciaaLAgrLaw
import Derived.Test.YtjhbjifhponciaaLJoin
import Derived.Test.YtjhbjifhponciaaLIdx
namespace Go.Proofs.Ytjhbjifhponciaa
open Go.RowKit Go.Maps
set_option linter.unusedVariables false

def RelCn (ns : List Nd) (xs : List Pt) (w2 : World) (i : Value) (wr : World) : Prop :=
  ∃ k : Nat, k ≤ xs.length ∧ i = .int .i64 k ∧ RBlk wr w2.heap.size 3 1 ns.length (fun i => [.int .i64 ((cntP xs k i : Nat) : Int)]) ∧ (∀ x ∈ xs.take k, isNodeB ns x.node = true) ∧ Below w2.heap.size w2 wr
def RelEx (cs : List Cb) (xs : List Pt) (w4 : World) (i : Value) (wr : World) : Prop :=
  ∃ k : Nat, k ≤ xs.length ∧ i = .int .i64 k ∧ (∀ x ∈ xs.take k, exactB cs x = true) ∧ Below w4.heap.size w4 wr
def RelO (xs : List Pt) (w5 : World) (i : Value) (wr : World) : Prop :=
  ∃ k : Nat, k ≤ xs.length ∧ i = .int .i64 k ∧ (∀ x ∈ xs.take k, (xs.all fun y => pairB x y) = true) ∧ Below w5.heap.size w5 wr
def RelI (x : Pt) (xs : List Pt) (w6 : World) (i : Value) (wr : World) : Prop :=
  ∃ k : Nat, k ≤ xs.length ∧ i = .int .i64 k ∧ (∀ y ∈ xs.take k, pairB x y = true) ∧ Below w6.heap.size w6 wr
/-- What has been walked of x's ranks fits y. -/
def midP (E : Ens) (y : Pt) (left : Lit → Bool) : Prop := ∀ c r, lookE E c = some r → left (.int .i64 c) = false → okE y c r = true
theorem midP_start {H : Type} {D : DataW H} {E : Ens} (h : Ents D E) (y : Pt) : midP E y (Maps.has D) := by
  intro c r hl hn
  rw [h.has_ c, hl] at hn; cases hn
theorem midP_step {E : Ens} {y : Pt} {left : Lit → Bool} {x v : Int} (h : midP E y left) (hx : lookE E x = some v) (hk : okE y x v = true) : midP E y (fun z => left z && !z.sameKey (.int .i64 x)) := by
  intro c r hl hn
  by_cases e : c = x
  · subst e; rw [hx] at hl; injection hl with hl; subst hl; exact hk
  · refine h c r hl ?_
    have : (Lit.int .i64 c).sameKey (.int .i64 x) = false := by simp [Lit.sameKey, e]
    simpa [this] using hn
theorem midP_end {x y : Pt} {left : Lit → Bool} (hn : (keysE x.ranks).Nodup) (h : midP x.ranks y left) (hl : ∀ kl, left kl = false) : pairB x y = true := by
  unfold pairB
  rw [List.all_eq_true]
  rintro ⟨c, r⟩ hm
  exact h c r (lookE_of_mem hn hm) (hl _)
theorem mem_take_snoc {α : Type} {d : α} {P : α → Prop} {l : List α} {k : Nat} (hk : k < l.length) (h : ∀ x ∈ l.take k, P x) (hx : P (l.getD k d)) : ∀ x ∈ l.take (k + 1), P x := by
  intro y hy
  rw [take_snocG d l k hk, List.mem_append] at hy
  rcases hy with hy | hy
  · exact h y hy
  · simp only [List.mem_singleton] at hy; rw [hy]; exact hx
theorem all_of_take {α : Type} {p : α → Bool} {l : List α} (h : ∀ x ∈ l.take l.length, p x = true) : l.all p = true := by rw [List.take_length] at h; exact List.all_eq_true.2 h
theorem allBad2 {α : Type} {p : α → Bool} {l : List α} {x : α} (hm : x ∈ l) (h : p x = false) : l.all p = false := by rw [List.all_eq_false]; exact ⟨x, hm, by rw [h]; simp⟩
theorem pair_bad {x y : Pt} {c r : Int} (hl : lookE x.ranks c = some r) (h : okE y c r = false) : pairB x y = false := by
  unfold pairB; rw [List.all_eq_false]; exact ⟨(c, r), lookE_mem hl, by rw [h]; simp⟩

set_option maxRecDepth 100000 in
set_option maxHeartbeats 8000000 in
theorem agree22_any (p : Pl) (An Ac Al : Option Addr) (cn cc cl : Nat) (xs : List Pt) (w : World) (hl : p.ns.length ≤ 1000000) (hl2 : p.cs.length ≤ 1000000) (hwf : WfP p) (hlx : xs.length ≤ 1000000) (hsm : smallMaps xs) (hnd : ∀ x ∈ xs, (keysE x.ranks).Nodup) (h : IsPlan w An Ac p) (hx : IsParts w Al xs.length xs) :
    Calls Try.prog 23 #[.agg #[.slice An p.ns.length cn, .slice Ac p.cs.length cc], .slice Al xs.length cl] w fun e w' => e = .returned (.int .i64 (agreeErr p xs)) ∧ Below w.heap.size w w' := by
  obtain ⟨ns, cs⟩ := p
  simp only at hl hl2 ⊢
  have HW := Lib.hid hwf
  have HSM := Lib.hid hsm
  have HND := Lib.hid hnd
  obtain ⟨w1, hw1⟩ : ∃ w1 : World, w.alloc (.cells #[.slice An ns.length cn, .slice Ac cs.length cc] 25) = w1 := ⟨_, rfl⟩
  have s0 : w1.cell? ⟨w.heap.size, 0, none⟩ = some (.slice An ns.length cn) := by rw [← hw1]; simp [go_sem]
  have s1 : w1.cell? ⟨w.heap.size, 1, none⟩ = some (.slice Ac cs.length cc) := by rw [← hw1]; simp [go_sem]
  have sz1 : w.heap.size < w1.heap.size := by rw [← hw1]; simp
  have BW0 : Below w.heap.size w w1 := by rw [← hw1]; exact (Below.refl _ _).alloc (Nat.le_refl _) _
  have BW := Lib.hid BW0
  have H1 := Lib.hid (h.below (Nat.le_refl _) BW0)
  have X1 := Lib.hid (hx.below (Nat.le_refl _) BW0)
  have HW1 := Lib.hid hw1
  have KC : Hid (∀ w', Below w1.heap.size w1 w' → w'.cell? ⟨w.heap.size, 0, none⟩ = some (.slice An ns.length cn) ∧ w'.cell? ⟨w.heap.size, 1, none⟩ = some (.slice Ac cs.length cc) ∧ w.heap.size < w'.heap.size ∧ Below w.heap.size w w') :=
    fun w' hb => ⟨(hb.cell (by exact sz1)).trans s0, (hb.cell (by exact sz1)).trans s1, by have := hb.size; omega, BW0.trans (hb.mono (by omega))⟩
  clear h hx hw1 hwf hsm BW0 hnd
  obtain ⟨j0, hj0, hy0, hy1, hy2⟩ := info_parts infoInt
  by_cases hv : validP ⟨ns, cs⟩ = 0
  · have HV := Lib.hid hv
    clear hv
    go_enter Try.func23, Try.ntmps23
    go_wp2_with fail
    rw [HW1.out]
    refine (r14valid_any ⟨ns, cs⟩ An Ac cn cc _ hl hl2 H1.out).mono ?_
    rintro e w2 ⟨rfl, bel2⟩
    rw [HV.out]
    have B2 := Lib.hid bel2
    clear s0 s1
    obtain ⟨u0, u1, sz2, bw2⟩ := KC.out w2 bel2
    clear bel2 bw2
    have X2 := Lib.hid (X1.out.below (Nat.le_refl _) B2.out)
    have H2 := Lib.hid (H1.out.below (Nat.le_refl _) B2.out)
    obtain ⟨o4, ho4⟩ : ∃ o4, Obj.cells (madeCells #[.int .i64 0] ns.length) 3 = o4 := ⟨_, rfl⟩
    have HO4 := Lib.hid ho4
    clear ho4
    go_wp2_with (at_make; refine wpList_make_rec _ rfl _ _ 27 rfl 3 j0 _ 1 Try.underlying27 hj0 hy0 hy1 .i64 .i64 _ _ ns.length rfl rfl ?m1 ?m2 (by rw [hy2]; omega) (by unfold maxLen; omega) ?_)
    case m1 => rfl
    case m2 => rfl
    rw [HO4.out]
    obtain ⟨w4, hw4⟩ : ∃ w4 : World, w2.alloc o4 = w4 := ⟨_, rfl⟩
    have ST : Hid (RelCn ns xs w2 (.int .i64 0) w4) := by
      refine ⟨0, Nat.zero_le _, rfl, ?_, by simp, ?_⟩
      · rw [← hw4, ← HO4.out]
        have := RBlk.made w2 (m := 1) (n := ns.length) (t := 3) (z := #[.int .i64 0]) rfl (by decide)
        rw [Nat.mul_one] at this
        exact this.congr fun i hi => rfl
      · rw [← hw4]; exact (Below.refl _ _).alloc (Nat.le_refl _) _
    rw [hw4]
    clear hw4 HO4 u0 u1 hj0 hy0 hy1 hy2
    go_wp2_with fail
    go_loopw [27] (fun i wr => RelCn ns xs w2 i wr) (fun i _ => xs.length - (RowKit.intOf i).toNat)
    case atStart => exact ST.out
    case round =>
      clear ST
      obtain ⟨k, hk, rfl, rb, hall, bel⟩ := hrel
      have bs := bel.size
      have RB := Lib.hid rb
      have gl := rb.lt
      have HA := Lib.hid hall
      clear rb hall
      have B3 := Lib.hid (B2.out.trans (bel.mono B2.out.size))
      obtain ⟨u0, u1, sz3, bw3⟩ := KC.out wr B3.out
      have BW3 := Lib.hid bw3
      clear bw3
      by_cases hkr : k < xs.length
      · obtain ⟨bb, off, ad, cd, m, ha, hbb, hmem, c0, c1, c2, rc, im⟩ := (X2.out.below (Nat.le_refl _) bel).at_ k hkr
        have HC := Lib.hid (fun i => cntP_step xs k i hkr)
        have HS : Hid (isNodeB ns (xs.getD k pt0).node = true → ∀ x ∈ xs.take (k + 1), isNodeB ns x.node = true) := fun h => mem_take_snoc (d := pt0) hkr HA.out h
        have HB : Hid (isNodeB ns (xs.getD k pt0).node = false → (xs.all fun x => isNodeB ns x.node) = false) := fun h => allBad2 hmem h
        generalize xs.getD k pt0 = x at *
        generalize x.deps.length = xd at *
        obtain ⟨xn, _, E⟩ := x
        simp only at c0 HC HS HB
        subst ha
        clear hmem rc im
        cases hin : isNodeB ns xn with
        | false =>
          have FIN : Hid (agreeErr ⟨ns, cs⟩ xs = 2) := by rw [Hid, agrA HV.out (by simp only; rw [arr2 (HB.out hin)]; decide)]; exact arr2 (HB.out hin)
          have hb : xn < 0 ∨ (0 ≤ xn ∧ (ns.length : Int) ≤ xn) := by
            simp [isNodeB] at hin
            rcases Int.lt_or_le xn 0 with h | h
            · exact .inl h
            · exact .inr ⟨h, hin h⟩
          have BF : Hid (Below w.heap.size w (wr.alloc (.cells #[.int .i64 xn, .slice ad xd cd, .map m] 41))) := BW3.out.alloc BW3.out.size _
          clear hin HB HS HC
          rcases hb with h1 | ⟨h1, h2⟩
          all_goals
            go_wp2_with fail
            go_ret
            exact ⟨by rw [FIN.out]; rfl, BF.out⟩
        | true =>
          have hb : 0 ≤ xn ∧ xn < ns.length := by simpa [isNodeB] using hin
          have HS2 := Lib.hid (HS.out hin)
          obtain ⟨n0, n1⟩ := hb
          clear hin HB HS
          obtain ⟨q, rfl⟩ : ∃ q : Nat, xn = q := ⟨xn.toNat, by omega⟩
          have hq : q < ns.length := by omega
          have hcl := cntP_le xs k q
          have cy : wr.cell? ⟨w2.heap.size, q, none⟩ = some (.int .i64 ((cntP xs k q : Nat) : Int)) := by
            have := RB.out.cell (i := q) (j := 0) hq (by omega)
            simpa using this
          have fy : wr.frozen? ⟨w2.heap.size, q, none⟩ = false := RB.out.frozen _
          have R : Hid (RelCn ns xs w2 (.int .i64 ((k + 1 : Nat) : Int)) ((wr.setCell ⟨w2.heap.size, q, none⟩ (.int .i64 ((cntP xs k q : Nat) + 1 : Int))).alloc (.cells #[.int .i64 q, .slice ad xd cd, .map m] 41))) := by
            refine ⟨k + 1, by omega, rfl, ?_, HS2.out, (bel.setCell (Nat.le_refl _) _).alloc (by simpa [World.setCell] using bs) _⟩
            refine ((RB.out.set1 hq _).alloc _).congr fun i hi => ?_
            unfold setR
            rw [HC.out i]
            by_cases e : i = q
            · subst e; simp
            · have : ¬ ((i : Int) = (q : Int)) := by omega
              simp [e, this]
          clear HC HS2
          generalize cntP xs k q = cq at *
          go_wp2_with fail
          exact ⟨by simpa using R.out, by simp [RowKit.intOf]; omega⟩
      · obtain rfl : k = xs.length := by omega
        have hal := Lib.hid (all_of_take (p := fun x : Pt => isNodeB ns x.node) HA.out)
        have RC : Hid (IsRec 1 cI 0 wr (some ⟨w2.heap.size, 0, none⟩) ns.length (cntL ns.length xs)) := RB.out.isRec (cntL_length _ _) fun i hi => by simp [cntL, hi, cI]
        have BE3 := Lib.hid bel
        have CL := Lib.hid (cntL_length ns.length xs)
        clear bel HA RB
        have hcf := contF_any (cntL ns.length xs) (some ⟨w2.heap.size, 0, none⟩) ns.length wr (by rw [CL.out]; exact hl) (by rw [CL.out]; exact RC.out)
        have hci := contI_any 0 (cntL ns.length xs) (some ⟨w2.heap.size, 0, none⟩) ns.length wr (by rw [CL.out]; exact hl) (by rw [CL.out]; exact RC.out)
        rw [CL.out, cnt_twice hal.out] at hcf
        rw [CL.out, cnt_none] at hci
        have HCF := Lib.hid hcf
        have HCI := Lib.hid hci
        clear hcf hci
        obtain ⟨w4, rfl⟩ : ∃ w4 : World, w4 = wr := ⟨_, rfl⟩
        have X4 := Lib.hid (X2.out.below (Nat.le_refl _) BE3.out)
        have C4 := Lib.hid ((H2.out.below (Nat.le_refl _) BE3.out).2)
        clear RC CL BE3 bs gl
        cases h8 : twiceB eqI 0 (nodesOf xs) with
        | true =>
          have FIN : Hid (agreeErr ⟨ns, cs⟩ xs = 8) := by rw [Hid, agrA HV.out (by simp only; rw [arr8 hal.out h8]; decide)]; exact arr8 hal.out h8
          rw [h8] at HCF
          clear h8 HCI
          go_wp2_with fail
          refine HCF.out.mono ?_
          rintro e w5 ⟨rfl, rfl⟩
          go_wp2_with fail
          go_ret
          exact ⟨by rw [FIN.out]; rfl, BW3.out⟩
        | false =>
          rw [h8] at HCF
          go_wp2_with fail
          refine HCF.out.mono ?_
          rintro e w5 ⟨rfl, rfl⟩
          cases h7 : (hasL ns.length xs xs.length).contains false with
          | true =>
            have FIN : Hid (agreeErr ⟨ns, cs⟩ xs = 7) := by rw [Hid, agrA HV.out (by simp only; rw [arr7 hal.out h8 h7]; decide)]; exact arr7 hal.out h8 h7
            rw [h7] at HCI
            clear h8 h7 HCF
            go_wp2_with fail
            refine HCI.out.mono ?_
            rintro e w5 ⟨rfl, rfl⟩
            go_wp2_with fail
            go_ret
            exact ⟨by rw [FIN.out]; rfl, BW3.out⟩
          | false =>
            have A0 := Lib.hid (arr0 hal.out h8 h7)
            rw [h7] at HCI
            clear h8 h7 HCF
            go_wp2_with fail
            refine HCI.out.mono ?_
            rintro e w5 ⟨rfl, rfl⟩
            clear HCI hal
            go_wp2_with fail
            go_loopw [56] (fun i wr => RelEx cs xs w4 i wr) (fun i _ => xs.length - (RowKit.intOf i).toNat)
            case atStart => exact ⟨0, Nat.zero_le _, rfl, by simp, Below.refl _ _⟩
            case round =>
              clear u0 u1
              obtain ⟨k, hk, rfl, hall, bel⟩ := hrel
              have bs := bel.size
              have HA := Lib.hid hall
              clear hall
              have B5 := Lib.hid (B3.out.trans (bel.mono B3.out.size))
              obtain ⟨u0, u1, sz5, bw5⟩ := KC.out wr B5.out
              have BW5 := Lib.hid bw5
              clear bw5
              by_cases hkr : k < xs.length
              · obtain ⟨bb, off, ad, cd, m, ha, hbb, hmem, c0, c1, c2, rc, im⟩ := (X4.out.below (Nat.le_refl _) bel).at_ k hkr
                have HS : Hid (exactB cs (xs.getD k pt0) = true → ∀ x ∈ xs.take (k + 1), exactB cs x = true) := fun h => mem_take_snoc (d := pt0) hkr HA.out h
                have HB : Hid (exactB cs (xs.getD k pt0) = false → xs.all (exactB cs) = false) := fun h => allBad2 hmem h
                have hms := HSM.out _ hmem
                generalize xs.getD k pt0 = x at *
                generalize hxd : x.deps.length = xd at *
                obtain ⟨xn, dd, E⟩ := x
                simp only at c0 HS HB hms im
                subst ha
                clear hmem rc hxd
                unfold exactB at HS HB
                simp only at HS HB
                obtain ⟨wa, hwa⟩ : ∃ wa : World, wr.alloc (.cells #[.int .i64 xn, .slice ad xd cd, .map m] 41) = wa := ⟨_, rfl⟩
                have bwa : Below wr.heap.size wr wa := hwa ▸ (Below.refl _ _).alloc (Nat.le_refl _) _
                have ma : Hid (IMV wa m E) := im.below bwa (Nat.le_refl _)
                have t2 : wa.cell? ⟨wr.heap.size, 2, none⟩ = some (.map m) := by rw [← hwa]; simp [go_sem]
                have t0 : wa.cell? ⟨wr.heap.size, 0, none⟩ = some (.int .i64 xn) := by rw [← hwa]; simp [go_sem]
                have sza : wr.heap.size < wa.heap.size := by rw [← hwa]; simp
                have C5 := Lib.hid ((C4.out.below (Nat.le_refl _) bel).below (Nat.le_refl _) bwa)
                have HWA := Lib.hid hwa
                have BEL := Lib.hid (bel.trans (bwa.mono bs))
                have B6 := Lib.hid (B3.out.trans (BEL.out.mono B3.out.size))
                clear hwa im bwa
                go_wp2_with fail
                rw [HWA.out]
                clear HWA c0 c1 c2 u0 u1 bel
                obtain ⟨u0, u1, sz6, bw6⟩ := KC.out wa B6.out
                have BW6 := Lib.hid bw6
                clear bw6
                generalize wr.heap.size = pb at *
                have KP : Hid (∀ w', Below wa.heap.size wa w' → w'.cell? ⟨w.heap.size, 0, none⟩ = some (.slice An ns.length cn) ∧ w'.cell? ⟨w.heap.size, 1, none⟩ = some (.slice Ac cs.length cc) ∧ w'.cell? ⟨pb, 0, none⟩ = some (.int .i64 xn) ∧ w'.cell? ⟨pb, 2, none⟩ = some (.map m)) :=
                  fun w' hb' => ⟨(hb'.cell (by show w.heap.size < _; omega)).trans u0, (hb'.cell (by show w.heap.size < _; omega)).trans u1, (hb'.cell (by exact sza)).trans t0, (hb'.cell (by exact sza)).trans t2⟩
                go_region_held3 (fun w' => w'.cell? ⟨w.heap.size, 0, none⟩ = some (.slice An ns.length cn) ∧ w'.cell? ⟨w.heap.size, 1, none⟩ = some (.slice Ac cs.length cc) ∧ w'.cell? ⟨pb, 0, none⟩ = some (.int .i64 xn) ∧ w'.cell? ⟨pb, 2, none⟩ = some (.map m))
                  (first | exact KP.out _ ((Below.refl _ _).drew) | exact KP.out _ BC.out | exact KP.out _ BX.out)
                  (first
                    | (go_at_call 18; refine (channels_any m E _ (by exact ma.out) hms).mono ?_; rintro e wc ⟨vc, rfl, ownc, belc⟩; have BC : Hid (Below wa.heap.size wa wc) := ((Below.refl _ _).drew).trans belc; obtain ⟨ac, cpc, rfl, _, rcc, _⟩ := rec_of_own (d := (0 : Int)) cI_length (by decide) ownc; have RCC := Lib.hid rcc; clear rcc ownc belc)
                    | (go_at_call 17; refine (exact_any cs (sortE E) An Ac ac ns.length cn cc cpc xn _ hl2 (by rw [sortE_length]; exact hms) (C5.out.below (Nat.le_refl _) BC.out) RCC.out).mono ?_; rintro e wx ⟨rfl, belx⟩; have BX : Hid (Below wa.heap.size wa wx) := BC.out.trans (belx.mono BC.out.size); clear belx))
                all_goals
                  have BF : Hid (Below w.heap.size w wx) := BW6.out.trans (BX.out.mono (by omega))
                  have BEX := Lib.hid (BEL.out.trans (BX.out.mono BEL.out.size))
                  clear RCC BC KP u0 u1 t0 t2
                  generalize exactE cs (sortE E) xn = ee at *
                  cases hq : ee == 0 with
                  | true =>
                    have q1 : (ee != 0) = false := by simpa using hq
                    have R : Hid (RelEx cs xs w4 (.int .i64 ((k + 1 : Nat) : Int)) wx) := ⟨k + 1, by omega, rfl, HS.out hq, BEX.out⟩
                    clear HS HB hq
                    go_wp2_with fail
                    exact ⟨by simpa using R.out, by simp [RowKit.intOf]; omega⟩
                  | false =>
                    have q1 : (ee != 0) = true := by simpa using hq
                    have FIN : Hid (agreeErr ⟨ns, cs⟩ xs = 3) := agr3 HV.out A0.out ((form_law (cs := cs) A0.out HND.out).symm.trans (HB.out hq))
                    clear HS HB hq
                    go_wp2_with fail
                    go_ret
                    exact ⟨by rw [FIN.out]; rfl, BF.out⟩
              · obtain rfl : k = xs.length := by omega
                have FO : Hid (formB cs (arrL ns.length xs) = true) := (form_law (cs := cs) A0.out HND.out).symm.trans (all_of_take HA.out)
                have SL := Lib.hid (sum_law HV.out A0.out HND.out FO.out)
                have XF := Lib.hid (X4.out.below (Nat.le_refl _) bel)
                obtain ⟨w5, rfl⟩ : ∃ w5 : World, w5 = wr := ⟨_, rfl⟩
                clear HA bel bs
                go_wp2_with fail
                go_loopw [71] (fun i wr => RelO xs w5 i wr) (fun i _ => xs.length - (RowKit.intOf i).toNat)
                case atStart => exact ⟨0, Nat.zero_le _, rfl, by simp, Below.refl _ _⟩
                case round =>
                  clear u0 u1
                  obtain ⟨k, hk, rfl, hall, bel⟩ := hrel
                  have bs := bel.size
                  have HA := Lib.hid hall
                  clear hall
                  by_cases hkr : k < xs.length
                  · obtain ⟨bb, off, ad, cd, m, ha, hbb, hmem, c0, c1, c2, rc, im⟩ := (XF.out.below (Nat.le_refl _) bel).at_ k hkr
                    have HS : Hid ((xs.all fun y => pairB (xs.getD k pt0) y) = true → ∀ x ∈ xs.take (k + 1), (xs.all fun y => pairB x y) = true) := fun h => mem_take_snoc (d := pt0) hkr HA.out h
                    have HB : Hid ((xs.all fun y => pairB (xs.getD k pt0) y) = false → (xs.all fun x => xs.all fun y => pairB x y) = false) := fun h => allBad2 hmem h
                    have NDX := Lib.hid (HND.out _ hmem)
                    generalize xs.getD k pt0 = x at *
                    generalize hxd : x.deps.length = xd at *
                    generalize x.node = xn at *
                    subst ha
                    clear hmem rc hxd
                    obtain ⟨wa, hwa⟩ : ∃ wa : World, wr.alloc (.cells #[.int .i64 xn, .slice ad xd cd, .map m] 41) = wa := ⟨_, rfl⟩
                    have bwa : Below wr.heap.size wr wa := hwa ▸ (Below.refl _ _).alloc (Nat.le_refl _) _
                    have MA : Hid (IMV wa m x.ranks) := im.below bwa (Nat.le_refl _)
                    have TX2 : Hid (wa.cell? ⟨wr.heap.size, 2, none⟩ = some (.map m)) := by rw [Hid, ← hwa]; simp [go_sem]
                    have sza : wr.heap.size < wa.heap.size := by rw [← hwa]; simp
                    have HWA := Lib.hid hwa
                    have BEL := Lib.hid (bel.trans (bwa.mono bs))
                    have XA := Lib.hid (XF.out.below (Nat.le_refl _) BEL.out)
                    clear hwa im bwa
                    go_wp2_with fail
                    rw [HWA.out]
                    clear HWA c0 c1 c2 bel
                    generalize wr.heap.size = px at *
                    go_loopw [77] (fun i wr => RelI x xs wa i wr) (fun i _ => xs.length - (RowKit.intOf i).toNat)
                    case atStart => exact ⟨0, Nat.zero_le _, rfl, by simp, Below.refl _ _⟩
                    case round =>
                      obtain ⟨j, hj, rfl, hall2, bel⟩ := hrel
                      have bs2 := bel.size
                      have HA2 := Lib.hid hall2
                      clear hall2
                      by_cases hjr : j < xs.length
                      · obtain ⟨bb, off, ad2, cd2, m2, ha, hbb, hmem, c0, c1, c2, rc, im2⟩ := (XA.out.below (Nat.le_refl _) bel).at_ j hjr
                        have HS2 : Hid (pairB x (xs.getD j pt0) = true → ∀ y ∈ xs.take (j + 1), pairB x y = true) := fun h => mem_take_snoc (d := pt0) hjr HA2.out h
                        have HB2 : Hid (pairB x (xs.getD j pt0) = false → (xs.all fun y => pairB x y) = false) := fun h => allBad2 hmem h
                        generalize xs.getD j pt0 = y at *
                        generalize hxd : y.deps.length = yd at *
                        generalize y.node = yn at *
                        simp only [Option.some.injEq, Addr.mk.injEq, and_true] at ha
                        obtain ⟨rfl, rfl⟩ := ha
                        clear hmem rc hxd
                        obtain ⟨wb, hwb⟩ : ∃ wb : World, wr.alloc (.cells #[.int .i64 yn, .slice ad2 yd cd2, .map m2] 41) = wb := ⟨_, rfl⟩
                        have bwb : Below wr.heap.size wr wb := hwb ▸ (Below.refl _ _).alloc (Nat.le_refl _) _
                        have MB2 : Hid (IMV wb m2 y.ranks) := im2.below bwb (Nat.le_refl _)
                        have szb : wr.heap.size < wb.heap.size := by rw [← hwb]; simp
                        have TY2 : Hid (wb.cell? ⟨wr.heap.size, 2, none⟩ = some (.map m2)) := by rw [Hid, ← hwb]; simp [go_sem]
                        have BB := Lib.hid (bel.trans (bwb.mono bs2))
                        have tx2 : wr.cell? ⟨px, 2, none⟩ = some (.map m) := by rw [bel.cell (by exact sza)]; exact TX2.out
                        have IMX := Lib.hid (MA.out.below BB.out (Nat.le_refl _))
                        have BF : Hid (∀ w', Below wb.heap.size wb w' → Below w.heap.size w w') := fun w' hb => (BW5.out.trans (BEL.out.mono (by omega))).trans ((BB.out.mono (by have := BEL.out.size; omega)).trans (hb.mono (by have := BEL.out.size; omega)))
                        have R2 : Hid (pairB x y = true → ∀ w', Below wb.heap.size wb w' → RelI x xs wa (.int .i64 ((j + 1 : Nat) : Int)) w') := fun h w' hb => ⟨j + 1, by omega, rfl, HS2.out h, BB.out.trans (hb.mono BB.out.size)⟩
                        have HWB := Lib.hid hwb
                        have szw : px < wr.heap.size := by omega
                        clear hwb bwb im2 HS2
                        rcases IMX.out with ⟨rfl, hE⟩ | ⟨b, rfl, hmb⟩
                        · have hp : pairB x y = true := by unfold pairB; rw [hE]; rfl
                          have R := Lib.hid (R2.out hp _ ((Below.refl wb.heap.size wb).alloc (Nat.le_refl _) (.mapIter none 0 #[] 0)))
                          rw [← HWB.out] at R
                          have hrg := run_range_nilMap (P := Try.prog) (wr.alloc (.cells #[.int .i64 yn, .slice ad2 yd cd2, .map m2] 41)) 39 3 3 Try.underlying39
                          have hsz : (wr.alloc (.cells #[.int .i64 yn, .slice ad2 yd cd2, .map m2] 41)).heap.size = wr.heap.size + 1 := by simp
                          have hnx := fun ty => run_next_nilMap (P := Try.prog) (wr.alloc (.cells #[.int .i64 yn, .slice ad2 yd cd2, .map m2] 41)) ty 0 0 #[]
                          rw [hsz] at hnx hrg
                          clear hp hE IMX R2 HB2 MA MB2 BB BF HWB hsz
                          go_wp2
                          refine wp_loop_rounds 1 ?_
                          rw [rounds_succ]
                          go_wp2_with fail
                          exact ⟨by simpa using R.out, by simp [RowKit.intOf]; omega⟩
                        · have hbl := hmb.lt
                          obtain ⟨HT, D, hown, hents⟩ := hmb
                          have HEN := Lib.hid hents
                          clear hents IMX MA bel BB
                          go_wp2_with (first
                            | (at_range; rw [HWB.out]; refine wpList_range_own _ rfl _ 39 rfl 3 3 (int_keyed Try.underlying3) Try.underlying39 _ b _ _ rfl hown ?_; intro w6 hrg0 hg0 hs0)
                            | go_in)
                          clear HWB c0 c1 c2
                          generalize wr.heap.size = py at *
                          go_frame
                          go_loopw [14] (fun _ wx => ∃ (left : Lit → Bool) (cnt : Nat), wx.ranges Try.prog 3 (plainElem Try.prog 3) b wb.heap.size x.ranks.length D left cnt ∧ midP x.ranks y left ∧ Below wb.heap.size wb wx)
                            (fun _ wx => wx.rangeLeft b wb.heap.size)
                          case atStart => exact ⟨_, _, hrg0, midP_start HEN.out y, (Below.refl _ _).grown hg0 (Nat.le_refl _) (by simp)⟩
                          case round =>
                            obtain ⟨left, cnt, hrg, hmid, belx⟩ := hrel
                            have bsx := belx.size
                            have MID := Lib.hid hmid
                            have BX := Lib.hid belx
                            clear hown hrg0 hg0 hs0 hmid belx tx2
                            go_wp2_with (first
                              | (at_next; refine wpList_next_ranges_ii _ rfl _ rfl 3 3 .i64 .i64 (int_keyed Try.underlying3) Try.underlying3 Try.underlying3 b wb.heap.size x.ranks.length _ _ _ rfl hrg ?_ ?_)
                              | go_in)
                            · intro _ hl0
                              have R := Lib.hid (R2.out (midP_end NDX.out MID.out hl0) wr BX.out)
                              clear hrg hl0
                              go_wp2_with fail
                              exact ⟨by simpa using R.out, by simp [RowKit.intOf]; omega⟩
                            · intro c r wy cnt1 hwx hwc hlx hat hrg1 hlt hg1 hs1 hen
                              have hlk := look_at HEN.out hat
                              have BY : Hid (Below wb.heap.size wb wy) := BX.out.grown hg1 bsx (by intro g' e; injection e with e; omega)
                              have r1 := (MB2.out.below BY.out (Nat.le_refl _)).look_ok (t := 39) Try.underlying3 Try.underlying3 Try.underlying39 (zeroInt _) hwx
                              have ty2 : wy.cell? ⟨py, 2, none⟩ = some (.map m2) := by rw [BY.out.cell (by exact szb)]; exact TY2.out
                              have HRG := Lib.hid hrg
                              have HRG1 := Lib.hid hrg1
                              have MS : Hid (okE y c r = true → midP x.ranks y (fun z => left z && !z.sameKey (.int .i64 c))) := fun h => midP_step MID.out hlk h
                              have MF : Hid (okE y c r = false → agreeErr ⟨ns, cs⟩ xs = 9) := fun h => agr9 HV.out A0.out FO.out (SL.out.symm.trans (HB.out (HB2.out (pair_bad hlk h))))
                              have BFy := Lib.hid (BF.out wy BY.out)
                              have hok : okE y c r = match lookE y.ranks c with | some o => o == r | none => true := rfl
                              have HOK := Lib.hid hok
                              clear hrg hrg1 hg1 hs1 hat hlx hwx hwc hlk hok
                              cases hlo : lookE y.ranks c with
                              | none =>
                                rw [hlo] at r1 HOK
                                simp only [Option.getD_none, Option.isSome_none] at r1
                                have M1 := Lib.hid (MS.out HOK.out)
                                clear MS MF HOK hlo
                                go_wp2_with fail
                                go_roundw
                                case rel => exact ⟨_, _, HRG1.out, M1.out, BY.out⟩
                                case measure => rw [HRG1.out.left_eq, HRG.out.left_eq]; exact hlt
                              | some o =>
                                rw [hlo] at r1 HOK
                                simp only [Option.getD_some, Option.isSome_some] at r1
                                cases hq : o == r with
                                | true =>
                                  have q1 : (o != r) = false := by simpa using hq
                                  have M1 := Lib.hid (MS.out (HOK.out.trans hq))
                                  clear MS MF HOK hlo hq
                                  go_wp2_with fail
                                  go_roundw
                                  case rel => exact ⟨_, _, HRG1.out, M1.out, BY.out⟩
                                  case measure => rw [HRG1.out.left_eq, HRG.out.left_eq]; exact hlt
                                | false =>
                                  have q1 : (o != r) = true := by simpa using hq
                                  have FIN := Lib.hid (MF.out (HOK.out.trans hq))
                                  clear MS MF HOK hlo hq
                                  go_wp2_with fail
                                  go_ret
                                  exact ⟨by rw [FIN.out]; rfl, BFy.out⟩
                      · obtain rfl : j = xs.length := by omega
                        have R : Hid (RelO xs w5 (.int .i64 ((k + 1 : Nat) : Int)) wr) := ⟨k + 1, by omega, rfl, HS.out (all_of_take HA2.out), BEL.out.trans (bel.mono BEL.out.size)⟩
                        clear bel HA2
                        go_wp2_with fail
                        exact ⟨by simpa using R.out, by simp [RowKit.intOf]; omega⟩
                  · obtain rfl : k = xs.length := by omega
                    have FIN : Hid (agreeErr ⟨ns, cs⟩ xs = 0) := agr0 HV.out A0.out FO.out (SL.out.symm.trans (all_of_take HA.out))
                    have BF : Hid (Below w.heap.size w wr) := BW5.out.trans (bel.mono (by omega))
                    clear bel HA
                    go_wp2_with fail
                    go_ret
                    exact ⟨by rw [FIN.out]; rfl, BF.out⟩
  · have FIN := Lib.hid (agr1 (xs := xs) hv)
    have q1 : (validP ⟨ns, cs⟩ != 0) = true := by simpa using hv
    go_enter Try.func23, Try.ntmps23
    go_wp2_with fail
    rw [HW1.out]
    refine (r14valid_any ⟨ns, cs⟩ An Ac cn cc _ hl hl2 H1.out).mono ?_
    rintro e w2 ⟨rfl, bel2⟩
    generalize validP ⟨ns, cs⟩ = vv at *
    obtain ⟨u0, u1, sz2, bw2⟩ := KC.out w2 bel2
    have BW2 := Lib.hid bw2
    clear bel2 bw2 hv s0 s1
    go_wp2_with fail
    go_ret
    exact ⟨by rw [FIN.out]; rfl, BW2.out⟩
end Go.Proofs.Ytjhbjifhponciaa
