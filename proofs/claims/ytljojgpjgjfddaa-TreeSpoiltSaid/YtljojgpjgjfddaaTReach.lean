/- The contract of tree.reach. -/
import Derived.Test.YtljojgpjgjfddaaTReachP
import Derived.Test.YtljojgpjgjfddaaTIdx
import Derived.Test.YtljojgpjgjfddaaTVisit
namespace Go.Proofs.Ytljojgpjgjfddaa
open Go.RowKit Go.Maps
set_option linter.unusedVariables false
set_option linter.unusedSimpArgs false

/-- The slice (a, len) reads as lists of ints. -/
def IsRows (w : World) (a : Option Addr) (len : Nat) (rows : List (List Int)) : Prop :=
  rows.length = len ∧ (0 < len → ∃ b off, a = some ⟨b, off, none⟩ ∧ b < w.heap.size ∧ ∀ i, i < len → ∃ ar cap, IsRec 1 cI 0 w ar (rows.getD i []).length (rows.getD i []) ∧ w.cell? ⟨b, off + i, none⟩ = some (.slice ar (rows.getD i []).length cap))
theorem IsRows.below {w w' : World} {B len : Nat} {a : Option Addr} {rows : List (List Int)} (h : IsRows w a len rows) (hB : w.heap.size ≤ B) (hb : Below B w w') : IsRows w' a len rows := by
  refine ⟨h.1, fun h0 => ?_⟩
  obtain ⟨b, off, e, hlt, hc⟩ := h.2 h0
  refine ⟨b, off, e, by have := hb.size; omega, fun i hi => ?_⟩
  obtain ⟨ar, cap, h1, h2⟩ := hc i hi
  exact ⟨ar, cap, h1.below hB hb, by rw [hb.cell (by show b < B; omega)]; exact h2⟩
theorem IsRows.at_ {w : World} {a : Option Addr} {len : Nat} {rows : List (List Int)} (h : IsRows w a len rows) (k : Nat) (hk : k < len) :
    ∃ b off ar cap, a = some ⟨b, off, none⟩ ∧ b < w.heap.size ∧ rows.getD k [] ∈ rows ∧ IsRec 1 cI 0 w ar (rows.getD k []).length (rows.getD k []) ∧ w.cell? ⟨b, off + k, none⟩ = some (.slice ar (rows.getD k []).length cap) := by
  obtain ⟨b, off, e, hlt, hc⟩ := h.2 (by omega)
  obtain ⟨ar, cap, h1, h2⟩ := hc k hk
  have hl : k < rows.length := by rw [h.1]; exact hk
  exact ⟨b, off, ar, cap, e, hlt, by simp [List.getD, hl], h1, h2⟩
def cOv (ov : List Int) (i : Nat) : List Value := [.int .i64 (ov.getD i 0)]
structure RVE (w0 w : World) (ns : List Nd) (cs : List Cb) (x : Tr) (An Ac aO aD : Option Addr) (cn cc cO cD bO bX bV bP bR base : Nat) : Prop where
  pO : Blk w bO 35 #[.slice (some ⟨bR, 0, none⟩) ns.length ns.length]
  pX : Blk w bX 61 #[.int .i64 x.src, .slice aO x.out.length cO, .slice aD x.del.length cD]
  pV : Blk w bV 109 #[.func (.func 131) #[] #[.pointer (some ⟨bO, 0, none⟩), .pointer (some ⟨bX, 0, none⟩), .pointer (some ⟨bV, 0, none⟩), .pointer (some ⟨bP, 0, none⟩)]]
  pP : Blk w bP 25 #[.slice An ns.length cn, .slice Ac cs.length cc]
  pl : IsPlan w0 An Ac ⟨ns, cs⟩
  rw_ : IsRows w0 aO x.out.length x.out
  bel : Below w0.heap.size w0 w
  l0 : w0.heap.size ≤ bR
  lO : bO < base
  lX : bX < base
  lV : bV < base
  lP : bP < base
  lR : bR < base
  nO : bO ≠ bR
  nX : bX ≠ bR
  nV : bV ≠ bR
  nP : bP ≠ bR
section
variable (w0 : World) (ns : List Nd) (cs : List Cb) (x : Tr) (An Ac aO aD : Option Addr) (cn cc cO cD bO bX bV bP bR base : Nat)
theorem RVE.kb {w0 w w' : World} {ns : List Nd} {cs : List Cb} {x : Tr} {An Ac aO aD : Option Addr} {cn cc cO cD bO bX bV bP bR base : Nat} (h : RVE w0 w ns cs x An Ac aO aD cn cc cO cD bO bX bV bP bR base) (hk : KB base [bR] w w') (hb0 : w0.heap.size ≤ base) :
    RVE w0 w' ns cs x An Ac aO aD cn cc cO cD bO bX bV bP bR base := by
  have f : ∀ {g : Nat} {t : TypeId} {xs : Array Value}, Blk w g t xs → g < base → g ≠ bR → Blk w' g t xs := fun hb hl hne => hk.blk hb hl (by simpa using hne)
  exact ⟨f h.pO h.lO h.nO, f h.pX h.lX h.nX, f h.pV h.lV h.nV, f h.pP h.lP h.nP, h.pl, h.rw_, h.bel.trans (hk.toBelow hb0 (by simp; exact h.l0)), h.l0, h.lO, h.lX, h.lV, h.lP, h.lR, h.nO, h.nX, h.nV, h.nP⟩
def RPost (w : World) (r : List Int × Bool) (e : Ending) (w' : World) : Prop := e = .returned (.bool r.2) ∧ KB base [bR] w w' ∧ RBlk w' bR 3 1 ns.length (cOv r.1)
def RelRV (f u : Nat) (ov : List Int) (w : World) (i : Value) (wr : World) : Prop :=
  ∃ k : Nat, k ≤ (x.out.getD u []).length ∧ i = .int .i64 k ∧ (goR cs (visR cs x.out f) u ((x.out.getD u []).take k) ov).2 = true ∧ KB base [bR] w wr ∧ RBlk wr bR 3 1 ns.length (cOv (goR cs (visR cs x.out f) u ((x.out.getD u []).take k) ov).1)
def RVSays (f : Nat) : Prop := ∀ (u : Nat) (c : Int) (w : World) (ov : List Int), u < ns.length → c ≠ -2 → ov.length = ns.length → cntR ov < f → base ≤ w.heap.size →
  RVE w0 w ns cs x An Ac aO aD cn cc cO cD bO bX bV bP bR base → RBlk w bR 3 1 ns.length (cOv ov) →
  Calls Try.prog 131 #[.int .i64 (u : Int), .int .i64 c, .pointer (some ⟨bO, 0, none⟩), .pointer (some ⟨bX, 0, none⟩), .pointer (some ⟨bV, 0, none⟩), .pointer (some ⟨bP, 0, none⟩)] w (RPost ns bR base w (visR cs x.out f ov u c))
set_option maxRecDepth 100000 in
set_option maxHeartbeats 4000000 in
theorem rvisit_step (hv : validP ⟨ns, cs⟩ = 0) (hns : ns.length ≤ 1000000) (hcs : cs.length ≤ 1000000) (hxl : x.out.length = ns.length) (hro : rowsOk cs x.out = true) (hrl : ∀ r ∈ x.out, r.length ≤ 1000000) (hb0 : w0.heap.size ≤ base) (f : Nat)
    (IH : RVSays w0 ns cs x An Ac aO aD cn cc cO cD bO bX bV bP bR base f) : RVSays w0 ns cs x An Ac aO aD cn cc cO cD bO bX bV bP bR base (f + 1) := by
  intro u c w ov hu hc2 hol hcnt hbs he hr
  have HE := Lib.hid he
  have HI := Lib.hid IH
  have HV := Lib.hid hv
  have HR := Lib.hid hr
  have cO1 := he.pO.one.1
  have cu : w.cell? ⟨bR, u, none⟩ = some (.int .i64 (ov.getD u 0)) := by
    have := hr.cell (i := u) (j := 0) hu (by omega)
    simpa [cOv] using this
  have fu : w.frozen? ⟨bR, u, none⟩ = false := hr.frozen _
  have ui : (u : Int) < (ns.length : Int) := by omega
  have VR : Hid (visR cs x.out (f + 1) ov u c = if ov.getD u 0 = -2 then goR cs (visR cs x.out f) u (x.out.getD u []) (ov.set u c) else (ov, false)) := rfl
  by_cases h0 : ov.getD u 0 = -2
  · rw [h0] at cu
    rw [Hid, if_pos h0] at VR
    have HVR := Lib.hid VR
    have h1 : ∀ o ∈ x.out.getD u [], ∃ k : Nat, o = k ∧ k < cs.length ∧ endT (cs.getD k cb0) (u : Int) = true := by
      intro o ho
      unfold rowsOk at hro
      have := List.all_eq_true.1 hro u (List.mem_range.2 (by omega))
      rw [Bool.and_eq_true] at this
      have h2 := List.all_eq_true.1 this.2 o ho
      unfold isEndB at h2
      simp only [Bool.and_eq_true, decide_eq_true_eq] at h2
      exact ⟨o.toNat, by omega, by omega, h2.2⟩
    have H1 := Lib.hid h1
    have hcn : cntR (ov.set u c) + 1 = cntR ov := cnt_set (by omega) h0 hc2
    have hout2 : ∀ u, ∀ o ∈ x.out.getD u [], o ≠ -2 := by
      intro v o ho
      by_cases hvl : v < x.out.length
      · unfold rowsOk at hro
        have := List.all_eq_true.1 hro v (List.mem_range.2 (by omega))
        rw [Bool.and_eq_true] at this
        have h2 := List.all_eq_true.1 this.2 o ho
        unfold isEndB at h2
        simp only [Bool.and_eq_true, decide_eq_true_eq] at h2
        omega
      · have : x.out.getD v [] = [] := by simp [List.getD, List.getElem?_eq_none (by omega : x.out.length ≤ v)]
        rw [this] at ho; cases ho
    have INV : Hid (∀ k, (goR cs (visR cs x.out f) u ((x.out.getD u []).take k) (ov.set u c)).1.length = ns.length ∧ cntR (goR cs (visR cs x.out f) u ((x.out.getD u []).take k) (ov.set u c)).1 < f) := fun k => by
      have := goR_keeps (cs := cs) (g := visR cs x.out f) (u := u) (l := (x.out.getD u []).take k) (P := fun q => q.length = ns.length ∧ cntR q ≤ cntR (ov.set u c)) (fun o ho q v hq => by
        have ho2 := hout2 u o (List.mem_of_mem_take ho)
        refine ⟨(visR_len f q v o).trans hq.1, ?_⟩
        by_cases hvl : v < q.length
        · exact Nat.le_trans (visR_cnt hout2 f q v o hvl ho2) hq.2
        · have e : (visR cs x.out f q v o).1 = q := by
            cases f with
            | zero => rfl
            | succ f =>
              unfold visR
              rw [if_neg]
              simp [List.getD, List.getElem?_eq_none (by omega : q.length ≤ v)]
          rw [e]; exact hq.2) (ov.set u c) ⟨by rw [List.length_set]; exact hol, Nat.le_refl _⟩
      exact ⟨this.1, by have := this.2; omega⟩
    have SN : Hid (∀ k, k < (x.out.getD u []).length → (goR cs (visR cs x.out f) u ((x.out.getD u []).take k) (ov.set u c)).2 = true →
        goR cs (visR cs x.out f) u ((x.out.getD u []).take (k + 1)) (ov.set u c) = visR cs x.out f (goR cs (visR cs x.out f) u ((x.out.getD u []).take k) (ov.set u c)).1 (othN cs u ((x.out.getD u []).getD k 0).toNat) ((x.out.getD u []).getD k 0)) := fun k hk h => by
      rw [take_snocG 0 _ k hk]; exact goR_snoc h
    have FB : Hid (∀ k, (goR cs (visR cs x.out f) u ((x.out.getD u []).take k) (ov.set u c)).2 = false → goR cs (visR cs x.out f) u (x.out.getD u []) (ov.set u c) = goR cs (visR cs x.out f) u ((x.out.getD u []).take k) (ov.set u c)) := fun k h => by
      have := goR_false (m := (x.out.getD u []).drop k) h
      rwa [List.take_append_drop] at this
    obtain ⟨w1, hw1⟩ : ∃ w1 : World, w.setCell ⟨bR, u, none⟩ (.int .i64 c) = w1 := ⟨_, rfl⟩
    have KB1 : Hid (KB base [bR] w w1) := by rw [Hid, ← hw1]; exact (KB.refl base [bR] w).setCell hbs (.inl (by simp)) _
    have RB1 : Hid (RBlk w1 bR 3 1 ns.length (cOv (ov.set u c))) := by
      rw [Hid, ← hw1]
      refine (hr.set1 hu (.int .i64 c)).congr fun i hi => ?_
      unfold setR cOv
      by_cases e : i = u
      · subst e; rw [if_pos rfl]; simp [List.getD, show i < ov.length by omega]
      · rw [if_neg e]
        have e2 : (ov.set u c).getD i 0 = ov.getD i 0 := by
          simp only [List.getD]
          rw [List.getElem?_set_ne (by omega)]
        rw [e2]
    have HW1 := Lib.hid hw1
    have TE1 := Lib.hid (HE.out.kb KB1.out hb0)
    have te1 := TE1.out
    have s1 := KB1.out.size
    have cX1 : w1.cell? ⟨bX, 1, none⟩ = some (.slice aO x.out.length cO) := by rw [te1.pX.cell]; rfl
    have RW1 := te1.rw_
    rw [hxl] at cX1 RW1
    obtain ⟨bo, oo, ar, capr, hao, hbo, hmr, hrr, cr0⟩ := RW1.at_ u hu
    have cr := (te1.bel.cell (p := ⟨bo, oo + u, none⟩) hbo).trans cr0
    have hrow := hrl _ hmr
    have RR := Lib.hid hrr
    have ST : Hid (RelRV ns cs x bR base f u (ov.set u c) w (.int .i64 0) w1) := ⟨0, Nat.zero_le _, rfl, by simp [goR], KB1.out, by simpa [goR] using RB1.out⟩
    generalize hrw : x.out.getD u [] = row at *
    have HRW := Lib.hid hrw
    rw [hao] at cX1
    clear he hr hv IH te1 RW1 hmr hrr hro cr0 VR h1 hout2 hrw HW1
    go_enter Try.func131, Try.ntmps131
    go_wp2_with fail
    go_loopw [26] (fun i wr => RelRV ns cs x bR base f u (ov.set u c) w i wr) (fun i _ => row.length - (RowKit.intOf i).toNat)
    case atStart => exact ST.out
    case round =>
      clear ST
      obtain ⟨k, hk, rfl, hgt, hkb, hrb⟩ := hrel
      rw [HRW.out] at hk hgt hrb
      have KBK := Lib.hid hkb
      have RBK := Lib.hid hrb
      have GT := Lib.hid hgt
      have s2 := hkb.size
      have TEK := Lib.hid (HE.out.kb hkb hb0)
      have te := TEK.out
      have RRK := RR.out.below (Nat.le_refl _) te.bel
      clear hgt hkb
      by_cases hkr : k < row.length
      · obtain ⟨io, hio, hil, hend⟩ := H1.out _ (show row.getD k 0 ∈ row by simp [List.getD, hkr])
        have SNK := SN.out k hkr GT.out
        obtain ⟨i1, i2⟩ := INV.out k
        obtain ⟨ovk, hovk⟩ : ∃ ovk, (goR cs (visR cs x.out f) u (row.take k) (ov.set u c)).1 = ovk := ⟨_, rfl⟩
        have OVK := Lib.hid hovk
        rw [hovk] at SNK i1 i2 hrb
        rw [hio, Int.toNat_natCast] at SNK
        have hmc : cs.getD io cb0 ∈ cs := by simp [List.getD, hil]
        obtain ⟨⟨a0, a1⟩, b0, b1⟩ := cab_node HV.out hmc
        obtain ⟨v, ev, htc⟩ := oth_touch hend a0 b0
        have EV : Hid (othN cs u io = v) := by rw [Hid]; unfold othN; rw [ev]; simp
        have hvn : v < ns.length := by rcases htc with ⟨_, h4⟩ | ⟨_, h4⟩ <;> omega
        rw [EV.out] at SNK
        have SK := Lib.hid SNK
        have PL : Hid (IsPlan wr An Ac ⟨ns, cs⟩) := te.pl.below (Nat.le_refl _) te.bel
        have HO : Hid (∀ w', Below wr.heap.size wr w' → Calls Try.prog 60 #[.agg #[.slice An ns.length cn, .slice Ac cs.length cc], .int .i64 (io : Int), .int .i64 (u : Int)] w' fun e w'' => e = .returned (.int .i64 (v : Int)) ∧ Below w'.heap.size w' w'') := fun w' hb => by
          rw [← ev]
          exact tother_any ns cs An Ac cn cc io (u : Int) w' hcs hil ((PL.out.below (Nat.le_refl _) hb).2) ⟨a0, by omega⟩ ⟨b0, by omega⟩ ⟨by omega, by omega⟩
        have cV := te.pV.one.1
        have p0 : wr.cell? ⟨bP, 0, none⟩ = some (.slice An ns.length cn) := by rw [te.pP.cell]; rfl
        have p1 : wr.cell? ⟨bP, 1, none⟩ = some (.slice Ac cs.length cc) := by rw [te.pP.cell]; rfl
        have lVw : bV < wr.heap.size := by have := te.lV; omega
        have lPw : bP < wr.heap.size := by have := te.lP; omega
        have RBV := Lib.hid hrb
        have KP : Hid (∀ w', Below wr.heap.size wr w' → w'.cell? ⟨bV, 0, none⟩ = some (.func (.func 131) #[] #[.pointer (some ⟨bO, 0, none⟩), .pointer (some ⟨bX, 0, none⟩), .pointer (some ⟨bV, 0, none⟩), .pointer (some ⟨bP, 0, none⟩)]) ∧ w'.cell? ⟨bP, 0, none⟩ = some (.slice An ns.length cn) ∧ w'.cell? ⟨bP, 1, none⟩ = some (.slice Ac cs.length cc)) :=
          fun w' hb => ⟨(hb.cell (p := ⟨bV, 0, none⟩) lVw).trans cV, (hb.cell (p := ⟨bP, 0, none⟩) lPw).trans p0, (hb.cell (p := ⟨bP, 1, none⟩) lPw).trans p1⟩
        have VC : Hid (∀ w', Below wr.heap.size wr w' → Calls Try.prog 131 #[.int .i64 (v : Int), .int .i64 (io : Int), .pointer (some ⟨bO, 0, none⟩), .pointer (some ⟨bX, 0, none⟩), .pointer (some ⟨bV, 0, none⟩), .pointer (some ⟨bP, 0, none⟩)] w' (RPost ns bR base w' (visR cs x.out f ovk v (io : Int)))) := fun w' hb => by
          have k4 := KBK.out.below hbs hb
          exact HI.out v io w' ovk hvn (by omega) i1 i2 (by have := hb.size; omega) (HE.out.kb k4 hb0) (hrb.below hb (by have := te.lR; omega))
        have KX : Hid (∀ w' w'', KB base [bR] w w' → KB base [bR] w' w'' → w''.cell? ⟨bV, 0, none⟩ = some (.func (.func 131) #[] #[.pointer (some ⟨bO, 0, none⟩), .pointer (some ⟨bX, 0, none⟩), .pointer (some ⟨bV, 0, none⟩), .pointer (some ⟨bP, 0, none⟩)]) ∧ w''.cell? ⟨bP, 0, none⟩ = some (.slice An ns.length cn) ∧ w''.cell? ⟨bP, 1, none⟩ = some (.slice Ac cs.length cc)) := fun w' w'' h1 h2 => by
          have te5 := HE.out.kb (kb_trans h1 h2) hb0
          exact ⟨te5.pV.one.1, by rw [te5.pP.cell]; rfl, by rw [te5.pP.cell]; rfl⟩
        obtain ⟨bq, oq, ha1, hbq, hm1, e1⟩ := int_at RRK k hkr
        rw [hio] at e1
        have ki : (k : Int) < (row.length : Int) := by omega
        cases hq : (visR cs x.out f ovk v (io : Int)).2 with
        | true =>
          have R : Hid (∀ w4 w5, Below wr.heap.size wr w4 → KB base [bR] w4 w5 → RBlk w5 bR 3 1 ns.length (cOv (visR cs x.out f ovk v (io : Int)).1) → RelRV ns cs x bR base f u (ov.set u c) w (.int .i64 ((k + 1 : Nat) : Int)) w5) := fun w4 w5 h4 h5 h6 => by
            refine ⟨k + 1, by rw [HRW.out]; omega, rfl, by rw [HRW.out, SK.out]; exact hq, kb_trans (KBK.out.below hbs h4) h5, ?_⟩
            rw [HRW.out, SK.out]; exact h6
          subst ha1
          generalize visR cs x.out f ovk v (io : Int) = r at *
          obtain ⟨r1, r2⟩ := r
          simp only at hq
          subst hq
          clear te RRK hrb hm1 SNK hovk hio hmc a0 a1 b0 b1 ev htc hend
          go_wp2_with fail
          go_region_held3 (fun w' => w'.cell? ⟨bV, 0, none⟩ = some (.func (.func 131) #[] #[.pointer (some ⟨bO, 0, none⟩), .pointer (some ⟨bX, 0, none⟩), .pointer (some ⟨bV, 0, none⟩), .pointer (some ⟨bP, 0, none⟩)]) ∧ w'.cell? ⟨bP, 0, none⟩ = some (.slice An ns.length cn) ∧ w'.cell? ⟨bP, 1, none⟩ = some (.slice Ac cs.length cc))
            (first | exact ⟨cV, p0, p1⟩ | exact KP.out _ B4.out | exact KX.out _ _ (KBK.out.below hbs B4.out) K5.out)
            (first
              | (go_at_call 60; refine (HO.out _ ((Below.refl _ _).drew)).mono ?_; rintro e w4 ⟨rfl, bel4⟩; have B4 : Hid (Below wr.heap.size wr w4) := (Below.refl _ _).drew.trans bel4; clear bel4)
              | (go_at_call 131; refine (VC.out _ B4.out).mono ?_; rintro e w5 ⟨rfl, k5, rb5⟩; have K5 := Lib.hid k5; have RB5 := Lib.hid rb5; clear k5 rb5))
          all_goals
            have R2 := Lib.hid (R.out _ _ B4.out K5.out RB5.out)
            clear R KX VC HO KP
            go_wp2_with fail
            exact ⟨by simpa using R2.out, by simp [RowKit.intOf]; omega⟩
        | false =>
          have R : Hid (∀ w4 w5, Below wr.heap.size wr w4 → KB base [bR] w4 w5 → RBlk w5 bR 3 1 ns.length (cOv (visR cs x.out f ovk v (io : Int)).1) → RPost ns bR base w (visR cs x.out (f + 1) ov u c) (.returned (.bool false)) w5) := fun w4 w5 h4 h5 h6 => by
            have h7 := FB.out (k + 1) (by rw [SK.out]; exact hq)
            rw [SK.out] at h7
            refine ⟨by rw [HVR.out, h7, hq], kb_trans (KBK.out.below hbs h4) h5, ?_⟩
            rw [HVR.out, h7]; exact h6
          subst ha1
          generalize visR cs x.out f ovk v (io : Int) = r at *
          obtain ⟨r1, r2⟩ := r
          simp only at hq
          subst hq
          clear te RRK hrb hm1 SNK hovk hio hmc a0 a1 b0 b1 ev htc hend
          go_wp2_with fail
          go_region_held3 (fun w' => w'.cell? ⟨bV, 0, none⟩ = some (.func (.func 131) #[] #[.pointer (some ⟨bO, 0, none⟩), .pointer (some ⟨bX, 0, none⟩), .pointer (some ⟨bV, 0, none⟩), .pointer (some ⟨bP, 0, none⟩)]) ∧ w'.cell? ⟨bP, 0, none⟩ = some (.slice An ns.length cn) ∧ w'.cell? ⟨bP, 1, none⟩ = some (.slice Ac cs.length cc))
            (first | exact ⟨cV, p0, p1⟩ | exact KP.out _ B4.out | exact KX.out _ _ (KBK.out.below hbs B4.out) K5.out)
            (first
              | (go_at_call 60; refine (HO.out _ ((Below.refl _ _).drew)).mono ?_; rintro e w4 ⟨rfl, bel4⟩; have B4 : Hid (Below wr.heap.size wr w4) := (Below.refl _ _).drew.trans bel4; clear bel4)
              | (go_at_call 131; refine (VC.out _ B4.out).mono ?_; rintro e w5 ⟨rfl, k5, rb5⟩; have K5 := Lib.hid k5; have RB5 := Lib.hid rb5; clear k5 rb5))
          all_goals
            have R2 := Lib.hid (R.out _ _ B4.out K5.out RB5.out)
            clear R KX VC HO KP
            go_wp2_with fail
            go_ret
            exact R2.out
      · obtain rfl : k = row.length := by omega
        rw [List.take_length] at GT hrb
        have P : Hid (RPost ns bR base w (visR cs x.out (f + 1) ov u c) (.returned (.bool true)) wr) := ⟨by rw [HVR.out, GT.out], KBK.out, by rw [HVR.out]; exact hrb⟩
        clear te RRK hrb
        go_wp2_with fail
        go_ret
        exact P.out
  · have q0 : (ov.getD u 0 != -2) = true := by simpa using h0
    rw [Hid, if_neg h0] at VR
    have HVR := Lib.hid VR
    have P : Hid (RPost ns bR base w (visR cs x.out (f + 1) ov u c) (.returned (.bool false)) w) := by rw [Hid, HVR.out]; exact ⟨rfl, KB.refl _ _ _, HR.out⟩
    generalize ov.getD u 0 = z at *
    clear he hr hv IH VR
    go_enter Try.func131, Try.ntmps131
    go_wp2_with fail
    go_ret
    exact P.out
theorem rvisit_any (hv : validP ⟨ns, cs⟩ = 0) (hns : ns.length ≤ 1000000) (hcs : cs.length ≤ 1000000) (hxl : x.out.length = ns.length) (hro : rowsOk cs x.out = true) (hrl : ∀ r ∈ x.out, r.length ≤ 1000000) (hb0 : w0.heap.size ≤ base) (f : Nat) :
    RVSays w0 ns cs x An Ac aO aD cn cc cO cD bO bX bV bP bR base f := by
  induction f with
  | zero => intro u c w ov _ _ _ h; omega
  | succ f ih => exact rvisit_step w0 ns cs x An Ac aO aD cn cc cO cD bO bX bV bP bR base hv hns hcs hxl hro hrl hb0 f ih
end
end Go.Proofs.Ytljojgpjgjfddaa
