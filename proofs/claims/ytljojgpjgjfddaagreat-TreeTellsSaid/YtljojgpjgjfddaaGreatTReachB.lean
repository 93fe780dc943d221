/- Several texts in one: TReach, TReachB. -/
import Derived.Test.YtljojgpjgjfddaaGreatTReachP
import Derived.Test.YtljojgpjgjfddaaGreatTCheck
import Derived.Test.YtljojgpjgjfddaaGreatTMake
import Derived.Laws.EntriesVeiled

/- The contract of tree.reach. -/
namespace Go.Proofs.YtljojgpjgjfddaaGreat
open Go.RowKit Go.Maps
set_option linter.unusedVariables false
set_option linter.unusedSimpArgs false

/-- The slice (a, len) reads as lists of ints. -/
def IsRows (w : World) (a : Option Addr) (len : Nat) (rows : List (List Int)) : Prop :=
  rows.length = len ∧ (0 < len → ∃ b off, a = some ⟨b, off, none⟩ ∧ b < w.heap.size ∧ ∀ i, i < len → ∃ ar cap, IsRec 1 cI 0 w ar (rows.getD i []).length (rows.getD i []) ∧ w.cell? ⟨b, off + i, none⟩ = some (.slice ar (rows.getD i []).length cap))
theorem IsRows.below {w w' : World} {B len : Nat} {a : Option Addr} {rows : List (List Int)} (h : IsRows w a len rows) (hB : w.heap.size ≤ B) (hb : Below B w w') : IsRows w' a len rows := by
  refine ⟨h.1, fun h0 => ?_⟩
  obtain ⟨b, off, e, hlt, hc⟩ := h.2 h0
  refine ⟨b, off, e, by have := hb.size; omega, fun i hi => ?_⟩
  obtain ⟨ar, cap, h1, h2⟩ := hc i hi
  exact ⟨ar, cap, h1.below hB hb, by rw [hb.cell (by show b < B; omega)]; exact h2⟩
theorem IsRows.at_ {w : World} {a : Option Addr} {len : Nat} {rows : List (List Int)} (h : IsRows w a len rows) (k : Nat) (hk : k < len) :
    ∃ b off ar cap, a = some ⟨b, off, none⟩ ∧ b < w.heap.size ∧ rows.getD k [] ∈ rows ∧ IsRec 1 cI 0 w ar (rows.getD k []).length (rows.getD k []) ∧ w.cell? ⟨b, off + k, none⟩ = some (.slice ar (rows.getD k []).length cap) := by
  obtain ⟨b, off, e, hlt, hc⟩ := h.2 (by omega)
  obtain ⟨ar, cap, h1, h2⟩ := hc k hk
  have hl : k < rows.length := by rw [h.1]; exact hk
  exact ⟨b, off, ar, cap, e, hlt, by simp [List.getD, hl], h1, h2⟩
def cOv (ov : List Int) (i : Nat) : List Value := [.int .i64 (ov.getD i 0)]
structure RVE (w0 w : World) (ns : List Nd) (cs : List Cb) (x : Tr) (An Ac aO aD : Option Addr) (cn cc cO cD bO bX bV bP bR base : Nat) : Prop where
  pO : Blk w bO 28 #[.slice (some ⟨bR, 0, none⟩) ns.length ns.length]
  pX : Blk w bX 56 #[.int .i64 x.src, .slice aO x.out.length cO, .slice aD x.del.length cD]
  pV : Blk w bV 133 #[.func (.func 127) #[] #[.pointer (some ⟨bO, 0, none⟩), .pointer (some ⟨bX, 0, none⟩), .pointer (some ⟨bV, 0, none⟩), .pointer (some ⟨bP, 0, none⟩)]]
  pP : Blk w bP 25 #[.slice An ns.length cn, .slice Ac cs.length cc]
  pl : IsPlan w0 An Ac ⟨ns, cs⟩
  rw_ : IsRows w0 aO x.out.length x.out
  bel : Below w0.heap.size w0 w
  l0 : w0.heap.size ≤ bR
  lO : bO < base
  lX : bX < base
  lV : bV < base
  lP : bP < base
  lR : bR < base
  nO : bO ≠ bR
  nX : bX ≠ bR
  nV : bV ≠ bR
  nP : bP ≠ bR
section
variable (w0 : World) (ns : List Nd) (cs : List Cb) (x : Tr) (An Ac aO aD : Option Addr) (cn cc cO cD bO bX bV bP bR base : Nat)
theorem RVE.kb {w0 w w' : World} {ns : List Nd} {cs : List Cb} {x : Tr} {An Ac aO aD : Option Addr} {cn cc cO cD bO bX bV bP bR base : Nat} (h : RVE w0 w ns cs x An Ac aO aD cn cc cO cD bO bX bV bP bR base) (hk : KB base [bR] w w') (hb0 : w0.heap.size ≤ base) :
    RVE w0 w' ns cs x An Ac aO aD cn cc cO cD bO bX bV bP bR base := by
  have f : ∀ {g : Nat} {t : TypeId} {xs : Array Value}, Blk w g t xs → g < base → g ≠ bR → Blk w' g t xs := fun hb hl hne => hk.blk hb hl (by simpa using hne)
  exact ⟨f h.pO h.lO h.nO, f h.pX h.lX h.nX, f h.pV h.lV h.nV, f h.pP h.lP h.nP, h.pl, h.rw_, h.bel.trans (hk.toBelow hb0 (by simp; exact h.l0)), h.l0, h.lO, h.lX, h.lV, h.lP, h.lR, h.nO, h.nX, h.nV, h.nP⟩
def RPost (w : World) (r : List Int × Bool) (e : Ending) (w' : World) : Prop := e = .returned (.bool r.2) ∧ KB base [bR] w w' ∧ RBlk w' bR 3 1 ns.length (cOv r.1)
def RelRV (f u : Nat) (ov : List Int) (w : World) (i : Value) (wr : World) : Prop :=
  ∃ k : Nat, k ≤ (x.out.getD u []).length ∧ i = .int .i64 k ∧ (goR cs (visR cs x.out f) u ((x.out.getD u []).take k) ov).2 = true ∧ KB base [bR] w wr ∧ RBlk wr bR 3 1 ns.length (cOv (goR cs (visR cs x.out f) u ((x.out.getD u []).take k) ov).1)
def RVSays (f : Nat) : Prop := ∀ (u : Nat) (c : Int) (w : World) (ov : List Int), u < ns.length → c ≠ -2 → ov.length = ns.length → cntR ov < f → base ≤ w.heap.size →
  RVE w0 w ns cs x An Ac aO aD cn cc cO cD bO bX bV bP bR base → RBlk w bR 3 1 ns.length (cOv ov) →
  Calls Tryz.prog 127 #[.int .i64 (u : Int), .int .i64 c, .pointer (some ⟨bO, 0, none⟩), .pointer (some ⟨bX, 0, none⟩), .pointer (some ⟨bV, 0, none⟩), .pointer (some ⟨bP, 0, none⟩)] w (RPost ns bR base w (visR cs x.out f ov u c))
set_option maxRecDepth 100000 in
set_option maxHeartbeats 4000000 in
theorem rvisit_step (hv : validP ⟨ns, cs⟩ = 0) (hns : ns.length ≤ 1000000) (hcs : cs.length ≤ 1000000) (hxl : x.out.length = ns.length) (hro : rowsOk cs x.out = true) (hrl : ∀ r ∈ x.out, r.length ≤ 1000000) (hb0 : w0.heap.size ≤ base) (f : Nat)
    (IH : RVSays w0 ns cs x An Ac aO aD cn cc cO cD bO bX bV bP bR base f) : RVSays w0 ns cs x An Ac aO aD cn cc cO cD bO bX bV bP bR base (f + 1) := by
  intro u c w ov hu hc2 hol hcnt hbs he hr
  have HE := Lib.hid he
  have HI := Lib.hid IH
  have HV := Lib.hid hv
  have HR := Lib.hid hr
  have cO1 := he.pO.one.1
  have cu : w.cell? ⟨bR, u, none⟩ = some (.int .i64 (ov.getD u 0)) := by
    have := hr.cell (i := u) (j := 0) hu (by omega)
    simpa [cOv] using this
  have fu : w.frozen? ⟨bR, u, none⟩ = false := hr.frozen _
  have ui : (u : Int) < (ns.length : Int) := by omega
  have VR : Hid (visR cs x.out (f + 1) ov u c = if ov.getD u 0 = -2 then goR cs (visR cs x.out f) u (x.out.getD u []) (ov.set u c) else (ov, false)) := rfl
  by_cases h0 : ov.getD u 0 = -2
  · rw [h0] at cu
    rw [Hid, if_pos h0] at VR
    have HVR := Lib.hid VR
    have h1 : ∀ o ∈ x.out.getD u [], ∃ k : Nat, o = k ∧ k < cs.length ∧ endT (cs.getD k cb0) (u : Int) = true := by
      intro o ho
      unfold rowsOk at hro
      have := List.all_eq_true.1 hro u (List.mem_range.2 (by omega))
      rw [Bool.and_eq_true] at this
      have h2 := List.all_eq_true.1 this.2 o ho
      unfold isEndB at h2
      simp only [Bool.and_eq_true, decide_eq_true_eq] at h2
      exact ⟨o.toNat, by omega, by omega, h2.2⟩
    have H1 := Lib.hid h1
    have hcn : cntR (ov.set u c) + 1 = cntR ov := cnt_set (by omega) h0 hc2
    have hout2 : ∀ u, ∀ o ∈ x.out.getD u [], o ≠ -2 := by
      intro v o ho
      by_cases hvl : v < x.out.length
      · unfold rowsOk at hro
        have := List.all_eq_true.1 hro v (List.mem_range.2 (by omega))
        rw [Bool.and_eq_true] at this
        have h2 := List.all_eq_true.1 this.2 o ho
        unfold isEndB at h2
        simp only [Bool.and_eq_true, decide_eq_true_eq] at h2
        omega
      · have : x.out.getD v [] = [] := by simp [List.getD, List.getElem?_eq_none (by omega : x.out.length ≤ v)]
        rw [this] at ho; cases ho
    have INV : Hid (∀ k, (goR cs (visR cs x.out f) u ((x.out.getD u []).take k) (ov.set u c)).1.length = ns.length ∧ cntR (goR cs (visR cs x.out f) u ((x.out.getD u []).take k) (ov.set u c)).1 < f) := fun k => by
      have := goR_keeps (cs := cs) (g := visR cs x.out f) (u := u) (l := (x.out.getD u []).take k) (P := fun q => q.length = ns.length ∧ cntR q ≤ cntR (ov.set u c)) (fun o ho q v hq => by
        have ho2 := hout2 u o (List.mem_of_mem_take ho)
        refine ⟨(visR_len f q v o).trans hq.1, ?_⟩
        by_cases hvl : v < q.length
        · exact Nat.le_trans (visR_cnt hout2 f q v o hvl ho2) hq.2
        · have e : (visR cs x.out f q v o).1 = q := by
            cases f with
            | zero => rfl
            | succ f =>
              unfold visR
              rw [if_neg]
              simp [List.getD, List.getElem?_eq_none (by omega : q.length ≤ v)]
          rw [e]; exact hq.2) (ov.set u c) ⟨by rw [List.length_set]; exact hol, Nat.le_refl _⟩
      exact ⟨this.1, by have := this.2; omega⟩
    have SN : Hid (∀ k, k < (x.out.getD u []).length → (goR cs (visR cs x.out f) u ((x.out.getD u []).take k) (ov.set u c)).2 = true →
        goR cs (visR cs x.out f) u ((x.out.getD u []).take (k + 1)) (ov.set u c) = visR cs x.out f (goR cs (visR cs x.out f) u ((x.out.getD u []).take k) (ov.set u c)).1 (othN cs u ((x.out.getD u []).getD k 0).toNat) ((x.out.getD u []).getD k 0)) := fun k hk h => by
      rw [take_snocG 0 _ k hk]; exact goR_snoc h
    have FB : Hid (∀ k, (goR cs (visR cs x.out f) u ((x.out.getD u []).take k) (ov.set u c)).2 = false → goR cs (visR cs x.out f) u (x.out.getD u []) (ov.set u c) = goR cs (visR cs x.out f) u ((x.out.getD u []).take k) (ov.set u c)) := fun k h => by
      have := goR_false (m := (x.out.getD u []).drop k) h
      rwa [List.take_append_drop] at this
    obtain ⟨w1, hw1⟩ : ∃ w1 : World, w.setCell ⟨bR, u, none⟩ (.int .i64 c) = w1 := ⟨_, rfl⟩
    have KB1 : Hid (KB base [bR] w w1) := by rw [Hid, ← hw1]; exact (KB.refl base [bR] w).setCell hbs (.inl (by simp)) _
    have RB1 : Hid (RBlk w1 bR 3 1 ns.length (cOv (ov.set u c))) := by
      rw [Hid, ← hw1]
      refine (hr.set1 hu (.int .i64 c)).congr fun i hi => ?_
      unfold setR cOv
      by_cases e : i = u
      · subst e; rw [if_pos rfl]; simp [List.getD, show i < ov.length by omega]
      · rw [if_neg e]
        have e2 : (ov.set u c).getD i 0 = ov.getD i 0 := by
          simp only [List.getD]
          rw [List.getElem?_set_ne (by omega)]
        rw [e2]
    have HW1 := Lib.hid hw1
    have TE1 := Lib.hid (HE.out.kb KB1.out hb0)
    have te1 := TE1.out
    have s1 := KB1.out.size
    have cX1 : w1.cell? ⟨bX, 1, none⟩ = some (.slice aO x.out.length cO) := by rw [te1.pX.cell]; rfl
    have RW1 := te1.rw_
    rw [hxl] at cX1 RW1
    obtain ⟨bo, oo, ar, capr, hao, hbo, hmr, hrr, cr0⟩ := RW1.at_ u hu
    have cr := (te1.bel.cell (p := ⟨bo, oo + u, none⟩) hbo).trans cr0
    have hrow := hrl _ hmr
    have RR := Lib.hid hrr
    have ST : Hid (RelRV ns cs x bR base f u (ov.set u c) w (.int .i64 0) w1) := ⟨0, Nat.zero_le _, rfl, by simp [goR], KB1.out, by simpa [goR] using RB1.out⟩
    generalize hrw : x.out.getD u [] = row at *
    have HRW := Lib.hid hrw
    rw [hao] at cX1
    clear he hr hv IH te1 RW1 hmr hrr hro cr0 VR h1 hout2 hrw HW1
    go_enter Tryz.func127, Tryz.ntmps127
    go_wp2_with fail
    go_loopw [26] (fun i wr => RelRV ns cs x bR base f u (ov.set u c) w i wr) (fun i _ => row.length - (RowKit.intOf i).toNat)
    case atStart => exact ST.out
    case round =>
      clear ST
      obtain ⟨k, hk, rfl, hgt, hkb, hrb⟩ := hrel
      rw [HRW.out] at hk hgt hrb
      have KBK := Lib.hid hkb
      have RBK := Lib.hid hrb
      have GT := Lib.hid hgt
      have s2 := hkb.size
      have TEK := Lib.hid (HE.out.kb hkb hb0)
      have te := TEK.out
      have RRK := RR.out.below (Nat.le_refl _) te.bel
      clear hgt hkb
      by_cases hkr : k < row.length
      · obtain ⟨io, hio, hil, hend⟩ := H1.out _ (show row.getD k 0 ∈ row by simp [List.getD, hkr])
        have SNK := SN.out k hkr GT.out
        obtain ⟨i1, i2⟩ := INV.out k
        obtain ⟨ovk, hovk⟩ : ∃ ovk, (goR cs (visR cs x.out f) u (row.take k) (ov.set u c)).1 = ovk := ⟨_, rfl⟩
        have OVK := Lib.hid hovk
        rw [hovk] at SNK i1 i2 hrb
        rw [hio, Int.toNat_natCast] at SNK
        have hmc : cs.getD io cb0 ∈ cs := by simp [List.getD, hil]
        obtain ⟨⟨a0, a1⟩, b0, b1⟩ := cab_node HV.out hmc
        obtain ⟨v, ev, htc⟩ := oth_touch hend a0 b0
        have EV : Hid (othN cs u io = v) := by rw [Hid]; unfold othN; rw [ev]; simp
        have hvn : v < ns.length := by rcases htc with ⟨_, h4⟩ | ⟨_, h4⟩ <;> omega
        rw [EV.out] at SNK
        have SK := Lib.hid SNK
        have PL : Hid (IsPlan wr An Ac ⟨ns, cs⟩) := te.pl.below (Nat.le_refl _) te.bel
        have HO : Hid (∀ w', Below wr.heap.size wr w' → Calls Tryz.prog 52 #[.agg #[.slice An ns.length cn, .slice Ac cs.length cc], .int .i64 (io : Int), .int .i64 (u : Int)] w' fun e w'' => e = .returned (.int .i64 (v : Int)) ∧ Below w'.heap.size w' w'') := fun w' hb => by
          rw [← ev]
          exact tother_any ns cs An Ac cn cc io (u : Int) w' hcs hil ((PL.out.below (Nat.le_refl _) hb).2) ⟨a0, by omega⟩ ⟨b0, by omega⟩ ⟨by omega, by omega⟩
        have cV := te.pV.one.1
        have p0 : wr.cell? ⟨bP, 0, none⟩ = some (.slice An ns.length cn) := by rw [te.pP.cell]; rfl
        have p1 : wr.cell? ⟨bP, 1, none⟩ = some (.slice Ac cs.length cc) := by rw [te.pP.cell]; rfl
        have lVw : bV < wr.heap.size := by have := te.lV; omega
        have lPw : bP < wr.heap.size := by have := te.lP; omega
        have RBV := Lib.hid hrb
        have KP : Hid (∀ w', Below wr.heap.size wr w' → w'.cell? ⟨bV, 0, none⟩ = some (.func (.func 127) #[] #[.pointer (some ⟨bO, 0, none⟩), .pointer (some ⟨bX, 0, none⟩), .pointer (some ⟨bV, 0, none⟩), .pointer (some ⟨bP, 0, none⟩)]) ∧ w'.cell? ⟨bP, 0, none⟩ = some (.slice An ns.length cn) ∧ w'.cell? ⟨bP, 1, none⟩ = some (.slice Ac cs.length cc)) :=
          fun w' hb => ⟨(hb.cell (p := ⟨bV, 0, none⟩) lVw).trans cV, (hb.cell (p := ⟨bP, 0, none⟩) lPw).trans p0, (hb.cell (p := ⟨bP, 1, none⟩) lPw).trans p1⟩
        have VC : Hid (∀ w', Below wr.heap.size wr w' → Calls Tryz.prog 127 #[.int .i64 (v : Int), .int .i64 (io : Int), .pointer (some ⟨bO, 0, none⟩), .pointer (some ⟨bX, 0, none⟩), .pointer (some ⟨bV, 0, none⟩), .pointer (some ⟨bP, 0, none⟩)] w' (RPost ns bR base w' (visR cs x.out f ovk v (io : Int)))) := fun w' hb => by
          have k4 := KBK.out.below hbs hb
          exact HI.out v io w' ovk hvn (by omega) i1 i2 (by have := hb.size; omega) (HE.out.kb k4 hb0) (hrb.below hb (by have := te.lR; omega))
        have KX : Hid (∀ w' w'', KB base [bR] w w' → KB base [bR] w' w'' → w''.cell? ⟨bV, 0, none⟩ = some (.func (.func 127) #[] #[.pointer (some ⟨bO, 0, none⟩), .pointer (some ⟨bX, 0, none⟩), .pointer (some ⟨bV, 0, none⟩), .pointer (some ⟨bP, 0, none⟩)]) ∧ w''.cell? ⟨bP, 0, none⟩ = some (.slice An ns.length cn) ∧ w''.cell? ⟨bP, 1, none⟩ = some (.slice Ac cs.length cc)) := fun w' w'' h1 h2 => by
          have te5 := HE.out.kb (kb_trans h1 h2) hb0
          exact ⟨te5.pV.one.1, by rw [te5.pP.cell]; rfl, by rw [te5.pP.cell]; rfl⟩
        obtain ⟨bq, oq, ha1, hbq, hm1, e1⟩ := int_at RRK k hkr
        rw [hio] at e1
        have ki : (k : Int) < (row.length : Int) := by omega
        cases hq : (visR cs x.out f ovk v (io : Int)).2 with
        | true =>
          have R : Hid (∀ w4 w5, Below wr.heap.size wr w4 → KB base [bR] w4 w5 → RBlk w5 bR 3 1 ns.length (cOv (visR cs x.out f ovk v (io : Int)).1) → RelRV ns cs x bR base f u (ov.set u c) w (.int .i64 ((k + 1 : Nat) : Int)) w5) := fun w4 w5 h4 h5 h6 => by
            refine ⟨k + 1, by rw [HRW.out]; omega, rfl, by rw [HRW.out, SK.out]; exact hq, kb_trans (KBK.out.below hbs h4) h5, ?_⟩
            rw [HRW.out, SK.out]; exact h6
          subst ha1
          generalize visR cs x.out f ovk v (io : Int) = r at *
          obtain ⟨r1, r2⟩ := r
          simp only at hq
          subst hq
          clear te RRK hrb hm1 SNK hovk hio hmc a0 a1 b0 b1 ev htc hend
          go_wp2_with fail
          go_region_held3 (fun w' => w'.cell? ⟨bV, 0, none⟩ = some (.func (.func 127) #[] #[.pointer (some ⟨bO, 0, none⟩), .pointer (some ⟨bX, 0, none⟩), .pointer (some ⟨bV, 0, none⟩), .pointer (some ⟨bP, 0, none⟩)]) ∧ w'.cell? ⟨bP, 0, none⟩ = some (.slice An ns.length cn) ∧ w'.cell? ⟨bP, 1, none⟩ = some (.slice Ac cs.length cc))
            (first | exact ⟨cV, p0, p1⟩ | exact KP.out _ B4.out | exact KX.out _ _ (KBK.out.below hbs B4.out) K5.out)
            (first
              | (go_at_call 52; refine (HO.out _ ((Below.refl _ _).drew)).mono ?_; rintro e w4 ⟨rfl, bel4⟩; have B4 : Hid (Below wr.heap.size wr w4) := (Below.refl _ _).drew.trans bel4; clear bel4)
              | (go_at_call 127; refine (VC.out _ B4.out).mono ?_; rintro e w5 ⟨rfl, k5, rb5⟩; have K5 := Lib.hid k5; have RB5 := Lib.hid rb5; clear k5 rb5))
          all_goals
            have R2 := Lib.hid (R.out _ _ B4.out K5.out RB5.out)
            clear R KX VC HO KP
            go_wp2_with fail
            exact ⟨by simpa using R2.out, by simp [RowKit.intOf]; omega⟩
        | false =>
          have R : Hid (∀ w4 w5, Below wr.heap.size wr w4 → KB base [bR] w4 w5 → RBlk w5 bR 3 1 ns.length (cOv (visR cs x.out f ovk v (io : Int)).1) → RPost ns bR base w (visR cs x.out (f + 1) ov u c) (.returned (.bool false)) w5) := fun w4 w5 h4 h5 h6 => by
            have h7 := FB.out (k + 1) (by rw [SK.out]; exact hq)
            rw [SK.out] at h7
            refine ⟨by rw [HVR.out, h7, hq], kb_trans (KBK.out.below hbs h4) h5, ?_⟩
            rw [HVR.out, h7]; exact h6
          subst ha1
          generalize visR cs x.out f ovk v (io : Int) = r at *
          obtain ⟨r1, r2⟩ := r
          simp only at hq
          subst hq
          clear te RRK hrb hm1 SNK hovk hio hmc a0 a1 b0 b1 ev htc hend
          go_wp2_with fail
          go_region_held3 (fun w' => w'.cell? ⟨bV, 0, none⟩ = some (.func (.func 127) #[] #[.pointer (some ⟨bO, 0, none⟩), .pointer (some ⟨bX, 0, none⟩), .pointer (some ⟨bV, 0, none⟩), .pointer (some ⟨bP, 0, none⟩)]) ∧ w'.cell? ⟨bP, 0, none⟩ = some (.slice An ns.length cn) ∧ w'.cell? ⟨bP, 1, none⟩ = some (.slice Ac cs.length cc))
            (first | exact ⟨cV, p0, p1⟩ | exact KP.out _ B4.out | exact KX.out _ _ (KBK.out.below hbs B4.out) K5.out)
            (first
              | (go_at_call 52; refine (HO.out _ ((Below.refl _ _).drew)).mono ?_; rintro e w4 ⟨rfl, bel4⟩; have B4 : Hid (Below wr.heap.size wr w4) := (Below.refl _ _).drew.trans bel4; clear bel4)
              | (go_at_call 127; refine (VC.out _ B4.out).mono ?_; rintro e w5 ⟨rfl, k5, rb5⟩; have K5 := Lib.hid k5; have RB5 := Lib.hid rb5; clear k5 rb5))
          all_goals
            have R2 := Lib.hid (R.out _ _ B4.out K5.out RB5.out)
            clear R KX VC HO KP
            go_wp2_with fail
            go_ret
            exact R2.out
      · obtain rfl : k = row.length := by omega
        rw [List.take_length] at GT hrb
        have P : Hid (RPost ns bR base w (visR cs x.out (f + 1) ov u c) (.returned (.bool true)) wr) := ⟨by rw [HVR.out, GT.out], KBK.out, by rw [HVR.out]; exact hrb⟩
        clear te RRK hrb
        go_wp2_with fail
        go_ret
        exact P.out
  · have q0 : (ov.getD u 0 != -2) = true := by simpa using h0
    rw [Hid, if_neg h0] at VR
    have HVR := Lib.hid VR
    have P : Hid (RPost ns bR base w (visR cs x.out (f + 1) ov u c) (.returned (.bool false)) w) := by rw [Hid, HVR.out]; exact ⟨rfl, KB.refl _ _ _, HR.out⟩
    generalize ov.getD u 0 = z at *
    clear he hr hv IH VR
    go_enter Tryz.func127, Tryz.ntmps127
    go_wp2_with fail
    go_ret
    exact P.out
theorem rvisit_any (hv : validP ⟨ns, cs⟩ = 0) (hns : ns.length ≤ 1000000) (hcs : cs.length ≤ 1000000) (hxl : x.out.length = ns.length) (hro : rowsOk cs x.out = true) (hrl : ∀ r ∈ x.out, r.length ≤ 1000000) (hb0 : w0.heap.size ≤ base) (f : Nat) :
    RVSays w0 ns cs x An Ac aO aD cn cc cO cD bO bX bV bP bR base f := by
  induction f with
  | zero => intro u c w ov _ _ _ h; omega
  | succ f ih => exact rvisit_step w0 ns cs x An Ac aO aD cn cc cO cD bO bX bV bP bR base hv hns hcs hxl hro hrl hb0 f ih
end
end Go.Proofs.YtljojgpjgjfddaaGreat

/- The contract of tree.reach. -/
namespace Go.Proofs.YtljojgpjgjfddaaGreat
open Go.RowKit Go.Maps
set_option linter.unusedVariables false
set_option linter.unusedSimpArgs false

def RelFill (n g b2 : Nat) (w0 : World) (i : Value) (wr : World) : Prop :=
  ∃ k : Nat, k ≤ n ∧ i = .int .i64 k ∧ RBlk wr g 3 1 n (fun j => [.int .i64 (if j < k then -2 else 0)]) ∧ Blk wr b2 28 #[.slice (some ⟨g, 0, none⟩) n n] ∧ Below g w0 wr ∧ wr.heap.size = b2 + 1
set_option maxRecDepth 100000 in
set_option maxHeartbeats 2000000 in
theorem reach_any (ns : List Nd) (cs : List Cb) (x : Tr) (An Ac aO aD : Option Addr) (cn cc cO cD : Nat) (w : World) (hv : validP ⟨ns, cs⟩ = 0) (hxl : x.out.length = ns.length) (hro : rowsOk cs x.out = true) (hrl : ∀ r ∈ x.out, r.length ≤ 1000000) (hs0 : 0 ≤ x.src) (hs1 : x.src < ns.length)
    (h : IsPlan w An Ac ⟨ns, cs⟩) (h2 : IsRows w aO x.out.length x.out) :
    Calls Tryz.prog 104 #[.agg #[.slice An ns.length cn, .slice Ac cs.length cc], .agg #[.int .i64 x.src, .slice aO x.out.length cO, .slice aD x.del.length cD]] w fun e w' => ∃ g, e = .returned (.tuple #[.slice (some ⟨g, 0, none⟩) ns.length ns.length, .bool (reachR ns.length cs x).2]) ∧ w.heap.size ≤ g ∧ IsRec 1 cI 0 w' (some ⟨g, 0, none⟩) ns.length (reachR ns.length cs x).1 ∧ Below w.heap.size w w' := by
  obtain ⟨n16, c32⟩ := valid_sizes hv
  obtain ⟨w1, hw1⟩ : ∃ w1 : World, (w.alloc (.cells #[.slice An ns.length cn, .slice Ac cs.length cc] 25)).alloc (.cells #[.int .i64 x.src, .slice aO x.out.length cO, .slice aD x.del.length cD] 56) = w1 := ⟨_, rfl⟩
  have hsz : Hid (w.heap.size + 1 + 1 = w1.heap.size) := by rw [Hid, ← hw1]; simp
  have BP1 : Hid (Blk w1 w.heap.size 25 #[.slice An ns.length cn, .slice Ac cs.length cc]) := by rw [Hid, ← hw1]; exact (Blk.new w _ _).alloc _
  have BX1 : Hid (Blk w1 (w.heap.size + 1) 56 #[.int .i64 x.src, .slice aO x.out.length cO, .slice aD x.del.length cD]) := by
    rw [Hid, ← hw1]; have := Blk.new (w.alloc (.cells #[.slice An ns.length cn, .slice Ac cs.length cc] 25)) 56 #[.int .i64 x.src, .slice aO x.out.length cO, .slice aD x.del.length cD]; simpa using this
  have BW0 : Hid (Below w.heap.size w w1) := by rw [Hid, ← hw1]; exact ((Below.refl _ _).alloc (Nat.le_refl _) _).alloc (by simp) _
  have HW1 := Lib.hid hw1
  have HV := Lib.hid hv
  have HP := Lib.hid h
  have HR := Lib.hid h2
  have HXL := Lib.hid hxl
  have HRO := Lib.hid hro
  have HRL := Lib.hid hrl
  obtain ⟨j0, hj0, hy0, hy1, hy2⟩ := info_parts infoInt
  obtain ⟨o4, ho4⟩ : ∃ o4, Obj.cells (madeCells #[.int .i64 0] ns.length) 3 = o4 := ⟨_, rfl⟩
  have HO4 := Lib.hid ho4
  have s0 : w1.cell? ⟨w.heap.size, 0, none⟩ = some (.slice An ns.length cn) := by rw [BP1.out.cell]; rfl
  clear h h2 hw1 hv hxl hro hrl ho4
  go_enter Tryz.func104, Tryz.ntmps104
  go_wp2_with (at_make; refine wpList_make_rec _ rfl _ _ 28 rfl 3 j0 _ 1 Tryz.underlying28 hj0 hy0 hy1 .i64 .i64 _ _ ns.length rfl rfl ?m1 ?m2 (by rw [hy2]; omega) (by unfold maxLen; omega) ?_)
  case m1 => rfl
  case m2 => rfl
  rw [HW1.out, HO4.out, hsz.out]
  obtain ⟨w4, hw4⟩ : ∃ w4 : World, (w1.alloc o4).alloc (.cells #[.slice (some ⟨w1.heap.size, 0, none⟩) ns.length ns.length] 28) = w4 := ⟨_, rfl⟩
  have ST : Hid (RelFill ns.length w1.heap.size (w1.heap.size + 1) w1 (.int .i64 0) w4) := by
    refine ⟨0, Nat.zero_le _, rfl, ?_, ?_, ?_, ?_⟩
    · rw [← hw4, ← HO4.out]
      have := (RBlk.made w1 (m := 1) (n := ns.length) (t := 3) (z := #[.int .i64 0]) rfl (by decide)).alloc (.cells #[.slice (some ⟨w1.heap.size, 0, none⟩) ns.length ns.length] 28)
      rw [Nat.mul_one] at this
      exact this.congr fun i hi => rfl
    · rw [← hw4]; have := Blk.new (w1.alloc o4) 28 #[.slice (some ⟨w1.heap.size, 0, none⟩) ns.length ns.length]; simpa using this
    · rw [← hw4]; exact ((Below.refl _ _).alloc (Nat.le_refl _) _).alloc (by simp) _
    · rw [← hw4]; simp
  rw [hw4]
  clear hw4 HO4 hj0 hy0 hy1 hy2
  go_loopw [16] (fun i wr => RelFill ns.length w1.heap.size (w1.heap.size + 1) w1 i wr) (fun i _ => ns.length - (RowKit.intOf i).toNat)
  case atStart => exact ST.out
  case round =>
    clear ST s0
    obtain ⟨k, hk, rfl, rb, b2, bel, hsz4⟩ := hrel
    have RB := Lib.hid rb
    have B2 := Lib.hid b2
    have BE := Lib.hid bel
    have c2 := b2.one.1
    by_cases hkr : k < ns.length
    · have fz := rb.frozen k
      have cz : wr.cell? ⟨w1.heap.size, k, none⟩ = some (.int .i64 0) := by have := rb.cell (i := k) (j := 0) hkr (by omega); simpa using this
      have ki : (k : Int) < (ns.length : Int) := by omega
      have R : Hid (RelFill ns.length w1.heap.size (w1.heap.size + 1) w1 (.int .i64 ((k + 1 : Nat) : Int)) (wr.setCell ⟨w1.heap.size, k, none⟩ (.int .i64 (-2)))) := by
        refine ⟨k + 1, by omega, rfl, (rb.set1 hkr (.int .i64 (-2))).congr fun i hi => ?_, b2.far (p := ⟨w1.heap.size, k, none⟩) (by show w1.heap.size + 1 ≠ w1.heap.size; omega) _, bel.setCell (Nat.le_refl _) _, by simpa [World.setCell] using hsz4⟩
        unfold setR
        by_cases e : i = k
        · subst e; rw [if_pos rfl, if_pos (by omega)]; rfl
        · rw [if_neg e]
          show [Value.int .i64 (if i < k then -2 else 0)] = _
          by_cases e2 : i < k
          · rw [if_pos e2, if_pos (by omega)]
          · rw [if_neg e2, if_neg (by omega)]
      clear rb b2 bel
      go_wp2_with fail
      exact ⟨by simpa using R.out, by simp [RowKit.intOf]; omega⟩
    · obtain rfl : k = ns.length := by omega
      have hsz5 := Lib.hid hsz4
      have hsz' := hsz.out
      obtain ⟨us, hus⟩ : ∃ us : Nat, x.src = us := ⟨x.src.toNat, by omega⟩
      have HUS := Lib.hid hus
      -- the world ahead of the call
      obtain ⟨w5, hw5⟩ : ∃ w5 : World, wr.alloc (.cells #[.func (.func 127) #[] #[.pointer (some ⟨w1.heap.size + 1, 0, none⟩), .pointer (some ⟨w.heap.size + 1, 0, none⟩), .pointer (some ⟨wr.heap.size, 0, none⟩), .pointer (some ⟨w.heap.size, 0, none⟩)]] 133) = w5 := ⟨_, rfl⟩
      have bel5 : Below w1.heap.size w1 w5 := by rw [← hw5]; exact bel.alloc bel.size _
      have BEW : Hid (Below w.heap.size w w5) := BW0.out.trans (bel5.mono BW0.out.size)
      have sz5 : w5.heap.size = w1.heap.size + 3 := by rw [← hw5]; simp [hsz4]
      have TE : Hid (RVE w w5 ns cs x An Ac aO aD cn cc cO cD (w1.heap.size + 1) (w.heap.size + 1) wr.heap.size w.heap.size w1.heap.size w5.heap.size) := by
        refine ⟨?_, BX1.out.below bel5 (by omega), ?_, BP1.out.below bel5 (by omega), HP.out, HR.out, BEW.out, by omega, by omega, by omega, by omega, by omega, by omega, by omega, by omega, by omega, by omega⟩
        · rw [← hw5]; exact b2.alloc _
        · rw [← hw5]; exact Blk.new _ _ _
      have RB5 : Hid (RBlk w5 w1.heap.size 3 1 ns.length (cOv (over0 ns.length))) := by
        rw [Hid, ← hw5]
        refine (rb.alloc _).congr fun i hi => ?_
        unfold cOv over0
        rw [if_pos hi]
        simp [List.getD, hi]
      have VC := Lib.hid (rvisit_any w ns cs x An Ac aO aD cn cc cO cD (w1.heap.size + 1) (w.heap.size + 1) wr.heap.size w.heap.size w1.heap.size w5.heap.size HV.out (by omega) (by omega) HXL.out HRO.out HRL.out (by have := BEW.out.size; omega) (ns.length + 1) us (-1) w5 (over0 ns.length) (by omega) (by decide) (by unfold over0; simp) (by rw [cnt_over0]; omega) (Nat.le_refl _) TE.out RB5.out)
      have RE : Hid (reachR ns.length cs x = visR cs x.out (ns.length + 1) (over0 ns.length) us (-1)) := by rw [Hid]; unfold reachR; rw [HUS.out]; rfl
      have HW5 := Lib.hid hw5
      have fin : Hid (∀ w6, KB w5.heap.size [w1.heap.size] w5 w6 → Below w.heap.size w w6 ∧ w6.cell? ⟨w1.heap.size + 1, 0, none⟩ = some (.slice (some ⟨w1.heap.size, 0, none⟩) ns.length ns.length)) := fun w6 hk6 => by
        have te6 := TE.out.kb hk6 (by have := BEW.out.size; omega)
        exact ⟨BEW.out.trans (hk6.toBelow (by have := BEW.out.size; omega) (by simp; omega)), te6.pO.one.1⟩
      have cX : w5.cell? ⟨w.heap.size + 1, 0, none⟩ = some (.int .i64 (us : Int)) := by rw [TE.out.pX.cell, hus]; rfl
      have cV : w5.cell? ⟨wr.heap.size, 0, none⟩ = some (.func (.func 127) #[] #[.pointer (some ⟨w1.heap.size + 1, 0, none⟩), .pointer (some ⟨w.heap.size + 1, 0, none⟩), .pointer (some ⟨wr.heap.size, 0, none⟩), .pointer (some ⟨w.heap.size, 0, none⟩)]) := TE.out.pV.one.1
      clear rb b2 bel bel5 hsz4 hus c2 hsz'
      go_wp2_with fail
      clear hw5
      refine VC.out.mono ?_
      rintro e w6 ⟨rfl, k6, rb6⟩
      obtain ⟨bw6, c6⟩ := fin.out w6 k6
      have BW6 := Lib.hid bw6
      have RI : Hid (IsRec 1 cI 0 w6 (some ⟨w1.heap.size, 0, none⟩) ns.length (reachR ns.length cs x).1) := by
        rw [Hid, RE.out]
        exact rb6.isRec (by rw [visR_len]; unfold over0; simp) (fun i hi => rfl)
      rw [← RE.out]
      have hle : w.heap.size ≤ w1.heap.size := BW0.out.size
      clear k6 rb6 bw6 cX cV sz5
      go_wp2_with fail
      go_ret2
      exact ⟨_, rfl, hle, RI.out, BW6.out⟩
end Go.Proofs.YtljojgpjgjfddaaGreat
