/- Several texts in one: TVisit, TMake. -/
import Derived.Test.YtljojgpjgjfddaaGreatTRows
import Derived.Test.YtljojgpjgjfddaaGreatTPathP
import Derived.Test.YtljojgpjgjfddaaGreatCVisit

/- The contract of the recursive closure of tree.Make. -/
namespace Go.Proofs.YtljojgpjgjfddaaGreat
open Go.RowKit Go.Maps
set_option linter.unusedVariables false
set_option linter.unusedSimpArgs false

section
variable (w0 : World) (ns : List Nd) (cs : List Cb) (lv : List Int) (W : Nat → Bool) (An Ac Ap : Option Addr) (cn cc cp bW bP bR bV bX bO base mW nW : Nat) (src : Int) (dv : Value)
theorem kb_trans {B : Nat} {X : List Nat} {w w' w'' : World} (h : KB B X w w') (h2 : KB B X w' w'') : KB B X w w'' :=
  ⟨h2.os.trans h.os, h2.tape.trans h.tape, h2.output.trans h.output, Nat.le_trans h.size h2.size, fun i hi hx => (h2.block i hi hx).trans (h.block i hi hx)⟩
theorem reads_newT (w : World) (t : TypeId) (cs : Array Value) {n : Nat} (h : cs.size = n * 1) : Reads (w.alloc (.cells cs t)) (w.heap.size + 1) 1 (some ⟨w.heap.size, 0, none⟩) n cs.toList :=
  ⟨by simpa using h, fun _ => ⟨_, rfl, by simp, fun q u hu => World.news_of_block (cs := cs) (t := t) (fr := (0, 0)) (heap_alloc_new w _) q u hu⟩⟩
def parL (ns : List Nd) (cs : List Cb) (lv : List Int) : List Int := (List.range ns.length).map (parV cs lv)
def TEnv (w : World) : Prop := TVE w0 w ns cs (parL ns cs lv) W An Ac Ap cn cc cp bW bP bR bV bX bO base mW nW src dv
def TPost (w : World) (O : Nat → List Int) (b : Bool) (L : List (Nat × Int)) (e : Ending) (w' : World) : Prop :=
  e = .returned (.bool b) ∧ KB base [bO] w w' ∧ ∃ V', RF w' bO base ns.length V' (fun a => O a ++ outAt L a)
def RelTV (f u : Nat) (ov : Int) (w : World) (O : Nat → List Int) (b i : Value) (wr : World) : Prop :=
  ∃ (k : Nat) (V' : Nat → Value), k ≤ cs.length ∧ i = .int .i64 k ∧ b = .bool (needK cs lv W f u ov k) ∧ KB base [bO] w wr ∧ RF wr bO base ns.length V' (fun a => O a ++ outAt (outK cs lv W f u ov k) a)
def TVSays (f : Nat) : Prop := ∀ (u : Nat) (ov : Int) (w : World) (V : Nat → Value) (O : Nat → List Int), u < ns.length → FitsT cs lv f u ov → base ≤ w.heap.size →
  TEnv w0 ns cs lv W An Ac Ap cn cc cp bW bP bR bV bX bO base mW nW src dv w → RF w bO base ns.length V O → (∀ a, (O a).length + (outAt (outT cs lv W f u ov) a).length ≤ 1000000) →
  Calls Tryz.prog 74 #[.int .i64 (u : Int), .int .i64 ov, .pointer (some ⟨bW, 0, none⟩), .pointer (some ⟨bP, 0, none⟩), .pointer (some ⟨bR, 0, none⟩), .pointer (some ⟨bV, 0, none⟩), .pointer (some ⟨bX, 0, none⟩)] w (TPost ns bO base w O (needT cs lv W f u ov) (outT cs lv W f u ov))
set_option maxRecDepth 100000 in
set_option maxHeartbeats 4000000 in
theorem tvisit_step (hv : validP ⟨ns, cs⟩ = 0) (hns : ns.length ≤ 1000000) (hcs : cs.length ≤ 1000000) (hb0 : w0.heap.size ≤ base) (f : Nat)
    (IH : TVSays w0 ns cs lv W An Ac Ap cn cc cp bW bP bR bV bX bO base mW nW src dv f) : TVSays w0 ns cs lv W An Ac Ap cn cc cp bW bP bR bV bX bO base mW nW src dv (f + 1) := by
  intro u ov w V O hu hf hbs he hr hlen
  have HE := Lib.hid he
  have HR := Lib.hid hr
  have HI := Lib.hid IH
  have HF := Lib.hid hf
  have HL := Lib.hid hlen
  have HV := Lib.hid hv
  obtain ⟨M, hM, hM2⟩ := he.mp
  have cW := he.pW.one.1
  have r1 := hM.look (t := 127) (int_keyed Tryz.underlying3) Tryz.underlying127 (zeroBool2 w) (keyOf_int_mk (a := (u : Int)) Tryz.underlying3 (wf_small (u : Int) (by omega) (by omega)))
  rw [hM2 u hu] at r1
  have cP1 : w.cell? ⟨bP, 1, none⟩ = some (.slice Ac cs.length cc) := by rw [he.pP.cell]; rfl
  have ST : Hid (RelTV ns cs lv W bO base f u ov w O (.bool (W u)) (.int .i64 0) w) := ⟨0, V, Nat.zero_le _, rfl, by rw [needK_zero], KB.refl _ _ _, hr.congr fun a _ => by rw [outK_zero, outAt_nil, List.append_nil]⟩
  clear he hr IH hf hlen hv hM hM2
  obtain ⟨iI, hiI0, hzI0, hz10, hz20⟩ := info_parts infoInt
  have HIi := Lib.hid hiI0
  have HIz := Lib.hid hzI0
  have HIz1 := Lib.hid hz10
  have HIz2 := Lib.hid hz20
  clear hiI0 hzI0 hz10 hz20
  go_enter Tryz.func74, Tryz.ntmps74
  go_wp2_with fail
  go_loopw [10, 19] (fun b i wr => RelTV ns cs lv W bO base f u ov w O b i wr) (fun _ i _ => cs.length - (RowKit.intOf i).toNat)
  case atStart => exact ST.out
  case round =>
    obtain ⟨k, V', hk, rfl, rfl, hkb, hrf⟩ := hrel
    have hs := hkb.size
    have KBK := Lib.hid hkb
    have RFK := Lib.hid hrf
    have TE := Lib.hid (HE.out.kb hkb hb0)
    have te := TE.out
    have PL : Hid (IsPlan wr An Ac ⟨ns, cs⟩) := te.pl.below (Nat.le_refl _) te.bel
    have PR : Hid (IsRec 1 cI 0 wr Ap ns.length (parL ns cs lv)) := te.pr.below (Nat.le_refl _) te.bel
    have cP1 : wr.cell? ⟨bP, 1, none⟩ = some (.slice Ac cs.length cc) := by rw [te.pP.cell]; rfl
    have cP0 : wr.cell? ⟨bP, 0, none⟩ = some (.slice An ns.length cn) := by rw [te.pP.cell]; rfl
    clear hkb hrf te ST
    by_cases hkr : k < cs.length
    · by_cases h1 : (k : Int) = ov
      · have G : goB cs lv u ov k = false := by unfold goB; simp [h1]
        have R : Hid (RelTV ns cs lv W bO base f u ov w O (.bool (needK cs lv W f u ov k)) (.int .i64 ((k + 1 : Nat) : Int)) wr) :=
          ⟨k + 1, V', by omega, rfl, by rw [needK_succ, G]; simp, KBK.out, RFK.out.congr fun a _ => by rw [outK_succ, outS_skip cs lv W f u ov G, List.append_nil]⟩
        subst h1
        generalize needK cs lv W f u (k : Int) k = b at *
        go_wp2_with fail
        exact ⟨by simpa using R.out, by simp [RowKit.intOf]; omega⟩
      · have HN : Hid (¬ (k : Int) = ov) := h1
        have h2 : ((k : Int) == ov) = false := by simpa using h1
        have HT := Lib.hid (fun w' (hb : Below wr.heap.size wr w') => tend_any ns cs An Ac cn cc k (u : Int) w' hcs hkr ((PL.out.below (Nat.le_refl _) hb).2))
        obtain ⟨b, hb⟩ : ∃ b, needK cs lv W f u ov k = b := ⟨_, rfl⟩
        have HBB := Lib.hid hb
        rw [hb]
        clear hb
        go_wp2_with fail
        refine (HT.out _ (Below.refl _ _)).mono ?_
        rintro e w2 ⟨rfl, bel2⟩
        have KB2 := Lib.hid (KBK.out.below (by omega) bel2)
        have RF2 := Lib.hid (RFK.out.below bel2)
        have BEL2 := Lib.hid bel2
        have s2 := bel2.size
        have TE2 := Lib.hid (HE.out.kb KB2.out hb0)
        clear bel2 KBK RFK cP0 cP1
        cases h3 : endT (cs.getD k cb0) (u : Int) with
        | false =>
          have G : goB cs lv u ov k = false := by unfold goB; rw [h3]; simp
          have R : Hid (RelTV ns cs lv W bO base f u ov w O (.bool b) (.int .i64 ((k + 1 : Nat) : Int)) w2) :=
            ⟨k + 1, V', by omega, rfl, by rw [needK_succ, G, ← HBB.out]; simp, KB2.out, RF2.out.congr fun a _ => by rw [outK_succ, outS_skip cs lv W f u ov G, List.append_nil]⟩
          go_wp2_with fail
          exact ⟨by simpa using R.out, by simp [RowKit.intOf]; omega⟩
        | true =>
          have hmc : cs.getD k cb0 ∈ cs := by simp [List.getD, hkr]
          obtain ⟨⟨a0, a1⟩, b0, b1⟩ := cab_node HV.out hmc
          obtain ⟨v, ev, htc⟩ := oth_touch h3 a0 b0
          have EV : Hid (othN cs u k = v) := by rw [Hid]; unfold othN; rw [ev]; simp
          have hvn : v < ns.length := by rcases htc with ⟨_, h4⟩ | ⟨_, h4⟩ <;> omega
          have HO := Lib.hid (fun w' (hb : Below wr.heap.size wr w') => tother_any ns cs An Ac cn cc k (u : Int) w' hcs hkr ((PL.out.below (Nat.le_refl _) hb).2) ⟨a0, by omega⟩ ⟨b0, by omega⟩ ⟨by omega, by omega⟩)
          rw [ev] at HO
          have te2 := TE2.out
          have cP1 : w2.cell? ⟨bP, 1, none⟩ = some (.slice Ac cs.length cc) := by rw [te2.pP.cell]; rfl
          have cP0 : w2.cell? ⟨bP, 0, none⟩ = some (.slice An ns.length cn) := by rw [te2.pP.cell]; rfl
          have H3 := Lib.hid h3
          clear te2 hmc a0 a1 b0 b1 htc h3 HT
          go_wp2_with fail
          refine (HO.out _ BEL2.out).mono ?_
          rintro e w3 ⟨rfl, bel3⟩
          have KB3 := Lib.hid (KB2.out.below (by omega) bel3)
          have RF3 := Lib.hid (RF2.out.below bel3)
          have s3 := bel3.size
          have TE3 := Lib.hid (HE.out.kb KB3.out hb0)
          have te3 := TE3.out
          have PR3 : IsRec 1 cI 0 w3 Ap ns.length (parL ns cs lv) := te3.pr.below (Nat.le_refl _) te3.bel
          have cR := te3.pR.one.1
          have cV := te3.pV.one.1
          obtain ⟨bq, oq, hq, hbq, _, cu⟩ := int_at PR3 u hu
          obtain ⟨bq', oq', hq', _, _, cv⟩ := int_at PR3 v hvn
          rw [hq] at hq'
          injection hq' with hq'
          injection hq' with q1 q2
          subst q1
          subst q2
          rw [show (parL ns cs lv).getD u 0 = parV cs lv u by simp [parL, List.getD, hu]] at cu
          rw [show (parL ns cs lv).getD v 0 = parV cs lv v by simp [parL, List.getD, hvn]] at cv
          rw [hq] at cR
          clear te3 PR3 cP0 cP1 KB2 RF2 TE2 BEL2 HO bel3
          have LNg : Hid (goB cs lv u ov k = true → ∀ a, ((fun a => O a ++ outAt (outK cs lv W f u ov k) a) a).length + (outAt (outT cs lv W f v (k : Int)) a).length ≤ 1000000) := fun G a => by
            have h7 := HL.out a
            have h8 := outK_len cs lv W f u ov hkr a
            have h9 : (outAt (outT cs lv W f v (k : Int)) a).length ≤ (outAt (outS cs lv W f u ov k) a).length := by
              unfold outS
              rw [if_pos G, EV.out, outAt_append, List.length_append]
              omega
            simp only [List.length_append]
            omega
          by_cases h4 : parV cs lv u = (k : Int)
          · rw [h4] at cu
            have G : goB cs lv u ov k = true := by unfold goB; rw [H3.out, h4]; simp [HN.out]
            have FT : Hid (FitsT cs lv f v (k : Int)) := by have := HF.out k hkr G; rw [EV.out] at this; exact this
            have LN := Lib.hid (LNg.out G)
            clear LNg h4
            go_wp2_with fail
            refine (HI.out v (k : Int) w3 V' _ hvn FT.out (by omega) TE3.out RF3.out LN.out).mono ?_
            rintro e w4 ⟨rfl, kb4, V4, rf4⟩
            have KB4 := Lib.hid (kb_trans KB3.out kb4)
            have RF4 := Lib.hid rf4
            have s4 := kb4.size
            clear kb4 rf4 cu cv cR cV HI
            cases h6 : needT cs lv W f v (k : Int) with
            | false =>
              have R : Hid (RelTV ns cs lv W bO base f u ov w O (.bool b) (.int .i64 ((k + 1 : Nat) : Int)) w4) :=
                ⟨k + 1, V4, by omega, rfl, by rw [needK_succ, G, HBB.out, EV.out, h6]; simp, KB4.out, RF4.out.congr fun a _ => by rw [outK_succ, outS_no cs lv W f u ov G (by rw [EV.out]; exact h6), EV.out, outAt_append, List.append_assoc]⟩
              go_wp2_with fail
              exact ⟨by simpa using R.out, by simp [RowKit.intOf]; omega⟩
            | true =>
              have H6 := Lib.hid h6
              clear h6
              have te4 := HE.out.kb KB4.out hb0
              have LB := te4.lX
              have nX := te4.nX
              have PX := Lib.hid te4.pX
              have x1 : w4.cell? ⟨bX, 1, none⟩ = some (.slice (some ⟨bO, 0, none⟩) ns.length ns.length) := by rw [te4.pX.cell]; rfl
              have x2 : w4.cell? ⟨bO, u, none⟩ = some (V4 u) := RF4.out.cell hu
              have fx : w4.frozen? ⟨bO, u, none⟩ = false := RF4.out.row.frozen _
              have OWJ := Lib.hid (RF4.out.own u hu)
              have RFD := Lib.hid ((RF4.out.below ((Below.refl w4.heap.size w4).alloc (Nat.le_refl _) (.cells #[.int .i64 (k : Int)] 3))).drew)
              have RLT : Hid (∀ q, (V4 u).ownBlock = some q → base ≤ q) := RF4.out.rowlt hu
              have ltO := RF4.out.lt
              have ltw : bO < w4.heap.size := by omega
              have new_ : ¬ bO = w4.heap.size := by omega
              have lxw : bX < w4.heap.size := by omega
              have NXT : Hid (∀ w6 v', w6.ownsRow base 3 1 v' (((O u ++ outAt (outK cs lv W f u ov k) u) ++ outAt (outT cs lv W f v (k : Int)) u).length + 1) (((O u ++ outAt (outK cs lv W f u ov k) u) ++ outAt (outT cs lv W f v (k : Int)) u).flatMap cI ++ [.int .i64 (k : Int)]) →
                  (w4.alloc (.cells #[.int .i64 (k : Int)] 3)).drew.grownBy w6 (V4 u).ownBlock → (v'.ownBlock = (V4 u).ownBlock ∨ v'.ownBlock = some (w4.heap.size + 1)) →
                  RelTV ns cs lv W bO base f u ov w O (.bool true) (.int .i64 ((k + 1 : Nat) : Int)) (w6.setCell ⟨bO, u, none⟩ v')) := fun w6 v' h7 h8 h9 => by
                refine ⟨k + 1, upd1 V4 u v', by omega, rfl, by rw [needK_succ, G, EV.out, H6.out]; simp, ?_, ?_⟩
                · exact ((((KB4.out.alloc (by omega) _).drew).grown (by omega) h8 (fun g e => .inr (RLT.out g e))).setCell (by omega) (.inl (by simp)) v')
                · refine (RFD.out.push hu h7 h8 (by simpa using h9)).congr fun a _ => ?_
                  rw [outK_succ, outS_yes cs lv W f u ov G (by rw [EV.out]; exact H6.out), EV.out]
                  by_cases e : a = u
                  · subst e
                    rw [upd1_same, outAt_append, outAt_append, outAt_same]
                    simp only [List.append_assoc]
                  · rw [upd1_other _ _ e, outAt_append, outAt_append, outAt_other _ e]
                    simp only [List.append_assoc, List.append_nil]
              have GRW : Hid (∀ w6, (w4.alloc (.cells #[.int .i64 (k : Int)] 3)).drew.grownBy w6 (V4 u).ownBlock → w6.cell? ⟨bX, 1, none⟩ = some (.slice (some ⟨bO, 0, none⟩) ns.length ns.length) ∧ w6.cell? ⟨bO, u, none⟩ = some (V4 u) ∧ w6.frozen? ⟨bO, u, none⟩ = false) := fun w6 h8 => by
                have ba : Below w4.heap.size w4 (w4.alloc (.cells #[.int .i64 (k : Int)] 3)) := (Below.refl _ _).alloc (Nat.le_refl _) _
                have tr := (RFD.out.row).grown h8 (fun e => by have := RLT.out _ e.symm; omega)
                have px := ((PX.out.below ba PX.out.lt).drew).grown h8 (fun e => by have := RLT.out _ e.symm; omega)
                refine ⟨by rw [px.cell]; rfl, ?_, tr.frozen _⟩
                have := tr.cell hu (show 0 < 1 by omega)
                simpa using this
              have LNu := LN.out u
              simp only at LNu OWJ
              have ML : ((O u ++ outAt (outK cs lv W f u ov k) u) ++ outAt (outT cs lv W f v (k : Int)) u).length ≤ 1000000 := by rw [List.length_append]; omega
              obtain ⟨vv, hvv⟩ : ∃ vv, V4 u = vv := ⟨_, rfl⟩
              obtain ⟨ol, hol⟩ : ∃ ol, (O u ++ outAt (outK cs lv W f u ov k) u) ++ outAt (outT cs lv W f v (k : Int)) u = ol := ⟨_, rfl⟩
              rw [hvv] at x2 OWJ NXT RLT GRW
              rw [hol] at OWJ NXT ML
              have ui : (u : Int) < (ns.length : Int) := by omega
              clear te4 hvv hol LNu RFD RF4 PX
              go_wp2_with fail
              have hiI := HIi.out
              have hzI := HIz.out
              have hzI1 := HIz1.out
              have hzI2 := HIz2.out
              go_region_law (refine step_append_any _ (by rfl) (.tmp 63) (.tmp 65) 28 (by rfl) base 3 iI _ 1 8 Tryz.underlying28 hiI hzI hzI1 hzI2 rfl (by decide) _ _ _ (by rfl) ((OWJ.out.alloc _).drew) (w4.heap.size + 1) (some ⟨w4.heap.size, 0, none⟩) 1 1 [.int .i64 (k : Int)] (by rfl) (reads_newT w4 3 #[.int .i64 (k : Int)] rfl) ?_ ?_ ?_ ?_ ?_; (intro u hu; simp at hu; subst hu; rfl); (unfold maxLen; omega); omega; (simp; omega); intro v' w6 own6 gr6 loc6; obtain ⟨b6, q6, hv6⟩ := ownsRow_pos (by omega) own6; rw [hv6]; obtain ⟨d8, dv6, dfv⟩ := GRW.out _ gr6)
              all_goals
                have R := Lib.hid (NXT.out _ _ own6 gr6 (by simpa using loc6))
                rw [hv6] at R
                clear own6 gr6 loc6 d8 dv6 dfv x1 x2 fx hiI hzI hzI1 hzI2 hv6
                go_wp2_with fail
                exact ⟨by simpa using R.out, by simp [RowKit.intOf]; omega⟩
          · have h4b : (parV cs lv u == (k : Int)) = false := by simpa using h4
            generalize hpu : parV cs lv u = pu at *
            by_cases h5 : parV cs lv v = (k : Int)
            · rw [h5] at cv
              have G : goB cs lv u ov k = true := by unfold goB; rw [H3.out, EV.out, h5]; simp [HN.out]
              have FT : Hid (FitsT cs lv f v (k : Int)) := by have := HF.out k hkr G; rw [EV.out] at this; exact this
              have LN := Lib.hid (LNg.out G)
              clear LNg h5 hpu
              go_wp2_with fail
              refine (HI.out v (k : Int) w3 V' _ hvn FT.out (by omega) TE3.out RF3.out LN.out).mono ?_
              rintro e w4 ⟨rfl, kb4, V4, rf4⟩
              have KB4 := Lib.hid (kb_trans KB3.out kb4)
              have RF4 := Lib.hid rf4
              have s4 := kb4.size
              clear kb4 rf4 cu cv cR cV HI
              cases h6 : needT cs lv W f v (k : Int) with
              | false =>
                have R : Hid (RelTV ns cs lv W bO base f u ov w O (.bool b) (.int .i64 ((k + 1 : Nat) : Int)) w4) :=
                  ⟨k + 1, V4, by omega, rfl, by rw [needK_succ, G, HBB.out, EV.out, h6]; simp, KB4.out, RF4.out.congr fun a _ => by rw [outK_succ, outS_no cs lv W f u ov G (by rw [EV.out]; exact h6), EV.out, outAt_append, List.append_assoc]⟩
                go_wp2_with fail
                exact ⟨by simpa using R.out, by simp [RowKit.intOf]; omega⟩
              | true =>
                have H6 := Lib.hid h6
                clear h6
                have te4 := HE.out.kb KB4.out hb0
                have LB := te4.lX
                have nX := te4.nX
                have PX := Lib.hid te4.pX
                have x1 : w4.cell? ⟨bX, 1, none⟩ = some (.slice (some ⟨bO, 0, none⟩) ns.length ns.length) := by rw [te4.pX.cell]; rfl
                have x2 : w4.cell? ⟨bO, u, none⟩ = some (V4 u) := RF4.out.cell hu
                have fx : w4.frozen? ⟨bO, u, none⟩ = false := RF4.out.row.frozen _
                have OWJ := Lib.hid (RF4.out.own u hu)
                have RFD := Lib.hid ((RF4.out.below ((Below.refl w4.heap.size w4).alloc (Nat.le_refl _) (.cells #[.int .i64 (k : Int)] 3))).drew)
                have RLT : Hid (∀ q, (V4 u).ownBlock = some q → base ≤ q) := RF4.out.rowlt hu
                have ltO := RF4.out.lt
                have ltw : bO < w4.heap.size := by omega
                have new_ : ¬ bO = w4.heap.size := by omega
                have lxw : bX < w4.heap.size := by omega
                have NXT : Hid (∀ w6 v', w6.ownsRow base 3 1 v' (((O u ++ outAt (outK cs lv W f u ov k) u) ++ outAt (outT cs lv W f v (k : Int)) u).length + 1) (((O u ++ outAt (outK cs lv W f u ov k) u) ++ outAt (outT cs lv W f v (k : Int)) u).flatMap cI ++ [.int .i64 (k : Int)]) →
                    (w4.alloc (.cells #[.int .i64 (k : Int)] 3)).drew.grownBy w6 (V4 u).ownBlock → (v'.ownBlock = (V4 u).ownBlock ∨ v'.ownBlock = some (w4.heap.size + 1)) →
                    RelTV ns cs lv W bO base f u ov w O (.bool true) (.int .i64 ((k + 1 : Nat) : Int)) (w6.setCell ⟨bO, u, none⟩ v')) := fun w6 v' h7 h8 h9 => by
                  refine ⟨k + 1, upd1 V4 u v', by omega, rfl, by rw [needK_succ, G, EV.out, H6.out]; simp, ?_, ?_⟩
                  · exact ((((KB4.out.alloc (by omega) _).drew).grown (by omega) h8 (fun g e => .inr (RLT.out g e))).setCell (by omega) (.inl (by simp)) v')
                  · refine (RFD.out.push hu h7 h8 (by simpa using h9)).congr fun a _ => ?_
                    rw [outK_succ, outS_yes cs lv W f u ov G (by rw [EV.out]; exact H6.out), EV.out]
                    by_cases e : a = u
                    · subst e
                      rw [upd1_same, outAt_append, outAt_append, outAt_same]
                      simp only [List.append_assoc]
                    · rw [upd1_other _ _ e, outAt_append, outAt_append, outAt_other _ e]
                      simp only [List.append_assoc, List.append_nil]
                have GRW : Hid (∀ w6, (w4.alloc (.cells #[.int .i64 (k : Int)] 3)).drew.grownBy w6 (V4 u).ownBlock → w6.cell? ⟨bX, 1, none⟩ = some (.slice (some ⟨bO, 0, none⟩) ns.length ns.length) ∧ w6.cell? ⟨bO, u, none⟩ = some (V4 u) ∧ w6.frozen? ⟨bO, u, none⟩ = false) := fun w6 h8 => by
                  have ba : Below w4.heap.size w4 (w4.alloc (.cells #[.int .i64 (k : Int)] 3)) := (Below.refl _ _).alloc (Nat.le_refl _) _
                  have tr := (RFD.out.row).grown h8 (fun e => by have := RLT.out _ e.symm; omega)
                  have px := ((PX.out.below ba PX.out.lt).drew).grown h8 (fun e => by have := RLT.out _ e.symm; omega)
                  refine ⟨by rw [px.cell]; rfl, ?_, tr.frozen _⟩
                  have := tr.cell hu (show 0 < 1 by omega)
                  simpa using this
                have LNu := LN.out u
                simp only at LNu OWJ
                have ML : ((O u ++ outAt (outK cs lv W f u ov k) u) ++ outAt (outT cs lv W f v (k : Int)) u).length ≤ 1000000 := by rw [List.length_append]; omega
                obtain ⟨vv, hvv⟩ : ∃ vv, V4 u = vv := ⟨_, rfl⟩
                obtain ⟨ol, hol⟩ : ∃ ol, (O u ++ outAt (outK cs lv W f u ov k) u) ++ outAt (outT cs lv W f v (k : Int)) u = ol := ⟨_, rfl⟩
                rw [hvv] at x2 OWJ NXT RLT GRW
                rw [hol] at OWJ NXT ML
                have ui : (u : Int) < (ns.length : Int) := by omega
                clear te4 hvv hol LNu RFD RF4 PX
                go_wp2_with fail
                have hiI := HIi.out
                have hzI := HIz.out
                have hzI1 := HIz1.out
                have hzI2 := HIz2.out
                go_region_law (refine step_append_any _ (by rfl) (.tmp 63) (.tmp 65) 28 (by rfl) base 3 iI _ 1 8 Tryz.underlying28 hiI hzI hzI1 hzI2 rfl (by decide) _ _ _ (by rfl) ((OWJ.out.alloc _).drew) (w4.heap.size + 1) (some ⟨w4.heap.size, 0, none⟩) 1 1 [.int .i64 (k : Int)] (by rfl) (reads_newT w4 3 #[.int .i64 (k : Int)] rfl) ?_ ?_ ?_ ?_ ?_; (intro u hu; simp at hu; subst hu; rfl); (unfold maxLen; omega); omega; (simp; omega); intro v' w6 own6 gr6 loc6; obtain ⟨b6, q6, hv6⟩ := ownsRow_pos (by omega) own6; rw [hv6]; obtain ⟨d8, dv6, dfv⟩ := GRW.out _ gr6)
                all_goals
                  have R := Lib.hid (NXT.out _ _ own6 gr6 (by simpa using loc6))
                  rw [hv6] at R
                  clear own6 gr6 loc6 d8 dv6 dfv x1 x2 fx hiI hzI hzI1 hzI2 hv6
                  go_wp2_with fail
                  exact ⟨by simpa using R.out, by simp [RowKit.intOf]; omega⟩
            · have h5b : (parV cs lv v == (k : Int)) = false := by simpa using h5
              have G : goB cs lv u ov k = false := by unfold goB; rw [EV.out, h5b, hpu, h4b]; simp
              have R : Hid (RelTV ns cs lv W bO base f u ov w O (.bool b) (.int .i64 ((k + 1 : Nat) : Int)) w3) :=
                ⟨k + 1, V', by omega, rfl, by rw [needK_succ, G, HBB.out]; simp, KB3.out, RF3.out.congr fun a _ => by rw [outK_succ, outS_skip cs lv W f u ov G, List.append_nil]⟩
              clear LNg hpu
              generalize parV cs lv v = pv at *
              go_wp2_with fail
              exact ⟨by simpa using R.out, by simp [RowKit.intOf]; omega⟩
    · obtain rfl : k = cs.length := by omega
      have F : Hid (TPost ns bO base w O (needT cs lv W (f + 1) u ov) (outT cs lv W (f + 1) u ov) (.returned (.bool (needK cs lv W f u ov cs.length))) wr) := ⟨by rw [needK_all], KBK.out, V', by rw [outK_all]; exact RFK.out⟩
      generalize needK cs lv W f u ov cs.length = b at *
      go_wp2_with fail
      go_ret
      exact F.out
end
end Go.Proofs.YtljojgpjgjfddaaGreat

/- The contract of tree.Make (so far: its search, by induction on the steps). -/
namespace Go.Proofs.YtljojgpjgjfddaaGreat
open Go.RowKit Go.Maps
set_option linter.unusedVariables false

theorem tvisit_any (w0 : World) (ns : List Nd) (cs : List Cb) (lv : List Int) (W : Nat → Bool) (An Ac Ap : Option Addr) (cn cc cp bW bP bR bV bX bO base mW nW : Nat) (src : Int) (dv : Value)
    (hv : validP ⟨ns, cs⟩ = 0) (hns : ns.length ≤ 1000000) (hcs : cs.length ≤ 1000000) (hb0 : w0.heap.size ≤ base) (f : Nat) : TVSays w0 ns cs lv W An Ac Ap cn cc cp bW bP bR bV bX bO base mW nW src dv f := by
  induction f with
  | zero => intro u ov w V O _ hf; cases hf
  | succ f ih => exact tvisit_step w0 ns cs lv W An Ac Ap cn cc cp bW bP bR bV bX bO base mW nW src dv hv hns hcs hb0 f ih
end Go.Proofs.YtljojgpjgjfddaaGreat
