/- The contract of the reference's Path. -/
import Derived.Test.YtljojgpjgjfddaaR23P
namespace Go.Proofs.Ytljojgpjgjfddaa
open Go.RowKit Go.Maps
set_option linter.unusedVariables false
set_option linter.unusedSimpArgs false

theorem own_litI (w : World) (t : TypeId) (v : Value) {base : Nat} (hb : base ≤ w.heap.size) : (w.alloc (.cells #[v] t)).ownsRow base t 1 (.slice (some ⟨w.heap.size, 0, none⟩) 1 1) 1 [v] :=
  ⟨rfl, .inr ⟨w.heap.size, 1, #[v], rfl, hb, heap_alloc_new w _, Nat.le_refl _, by decide, rfl, rfl⟩⟩
theorem own_belowI {w w' : World} {base e n : Nat} {v : Value} {xs : List Value} (h : w.ownsRow base e 1 v n xs) (hb : Below w.heap.size w w') : w'.ownsRow base e 1 v n xs :=
  h.kept (only_of_below hb none) (by cases v.ownBlock with
    | none => exact .inl rfl
    | some q => exact .inr (by simp))
theorem fixT {w w' : World} {fa : Option Addr} {u v : Value} {o : Obj} (hx : ∀ x, fa = some x → u.ownBlock ≠ some x.block ∧ x.block < w.heap.size) (hg : (w.alloc o).grownBy w' u.ownBlock) (hl : v.ownBlock = u.ownBlock ∨ v.ownBlock = some (w.alloc o).heap.size) : ∀ x, fa = some x → v.ownBlock ≠ some x.block ∧ x.block < w'.heap.size := fun x h => by
  obtain ⟨h1, h2⟩ := hx x h
  have h3 := hg.size
  rw [World.size_alloc] at h3 hl
  refine ⟨?_, by omega⟩
  rcases hl with e | e
  · rw [e]; exact h1
  · rw [e]; intro e2; injection e2 with e2; omega
theorem fallT {w w' : World} {base : Nat} {u v : Value} {n : Nat} {xs : List Value} {i : Int} {fall : List Int} (ho : w.ownsRow base 3 1 u n xs) (own : w'.ownsRow w.heap.size 3 1 v (1 + fall.length) ([.int .i64 i] ++ fall.flatMap cI)) (hg : (w.alloc (.cells #[.int .i64 i] 3)).grownBy w' (Value.slice (some ⟨w.heap.size, 0, none⟩) 1 1).ownBlock) :
    Below w.heap.size w w' ∧ w'.ownsRow base 3 1 u n xs ∧ ∃ fa' fc', v = .slice fa' (i :: fall).length fc' ∧ IsRec 1 cI 0 w' fa' (i :: fall).length (i :: fall) ∧ ∀ x, fa' = some x → u.ownBlock ≠ some x.block ∧ x.block < w'.heap.size := by
  have hb : Below w.heap.size w w' := ((Below.refl _ _).alloc (Nat.le_refl _) _).grown hg (by simp) (fun g e => by simp [Value.ownBlock] at e; omega)
  have own' : w'.ownsRow w.heap.size 3 1 v (i :: fall).length ((i :: fall).flatMap cI) := by
    rw [List.length_cons, Nat.add_comm]; exact own
  obtain ⟨fa', fc', hv, _, hr, hx⟩ := rec_of_own (d := (0 : Int)) cI_length (by decide) own'
  refine ⟨hb, own_belowI ho hb, fa', fc', hv, hr, fun x h => ⟨fun e => ?_, ?_⟩⟩
  · have h1 := (ho.lt x.block e).2
    have h2 := hx x h
    omega
  · have := (own'.lt x.block (by rw [hv, h]; rfl)).2
    exact this
def lvI (lv : List Int) (v : Value) : Int := lv.getD (RowKit.intOf v).toNat 0
def RelPt (ns : List Nd) (cs : List Cb) (lv : List Int) (P : List Int) (w w1 : World) (v9 v10 va vb : Value) (wr : World) : Prop :=
  ∃ (a b f : Nat) (rise fall : List Int) (fa : Option Addr) (fc : Nat), va = .int .i64 a ∧ vb = .int .i64 b ∧ a < ns.length ∧ b < ns.length ∧ 0 ≤ lv.getD a 0 ∧ 0 ≤ lv.getD b 0 ∧ lv.getD a 0 + lv.getD b 0 < f ∧ rise ++ pathP cs lv f a b ++ fall = P ∧
    (rise.length : Int) + fall.length + lv.getD a 0 + lv.getD b 0 ≤ 100 ∧ wr.ownsRow w1.heap.size 3 1 v9 rise.length (rise.flatMap cI) ∧ v10 = .slice fa fall.length fc ∧ IsRec 1 cI 0 wr fa fall.length fall ∧ (∀ x, fa = some x → v9.ownBlock ≠ some x.block ∧ x.block < wr.heap.size) ∧ Below w1.heap.size w1 wr
set_option maxRecDepth 100000 in
set_option maxHeartbeats 4000000 in
theorem path23_any (ns : List Nd) (cs : List Cb) (lv : List Int) (s m : Nat) (An Ac Al : Option Addr) (cn cc cl : Nat) (w : World) (T : TOk ns cs lv) (hs : s < ns.length) (hm : m < ns.length) (s0 : 0 ≤ lv.getD s 0) (m0 : 0 ≤ lv.getD m 0) (h : IsPlan w An Ac ⟨ns, cs⟩) (h2 : IsRec 1 cI 0 w Al lv.length lv) :
    Calls Try.prog 65 #[.agg #[.slice An ns.length cn, .slice Ac cs.length cc], .slice Al lv.length cl, .int .i64 s, .int .i64 m] w (IntsPost (pathP cs lv (ns.length + ns.length + 1) s m) w) := by
  obtain ⟨n16, c32⟩ := valid_sizes T.hv
  obtain ⟨w1, hw1⟩ : ∃ w1 : World, w.alloc (.cells #[.slice An ns.length cn, .slice Ac cs.length cc] 25) = w1 := ⟨_, rfl⟩
  have p0 : w1.cell? ⟨w.heap.size, 0, none⟩ = some (.slice An ns.length cn) := by rw [← hw1]; simp [go_sem]
  have p1 : w1.cell? ⟨w.heap.size, 1, none⟩ = some (.slice Ac cs.length cc) := by rw [← hw1]; simp [go_sem]
  have sz1 : w.heap.size < w1.heap.size := by rw [← hw1]; simp
  have BW0 : Hid (Below w.heap.size w w1) := by rw [Hid, ← hw1]; exact (Below.refl _ _).alloc (Nat.le_refl _) _
  have H1 := Lib.hid (h.below (Nat.le_refl _) BW0.out)
  have L1 := Lib.hid (h2.below (Nat.le_refl _) BW0.out)
  have HW1 := Lib.hid hw1
  have HT := Lib.hid T
  have KC : Hid (∀ w', Below w1.heap.size w1 w' → (w'.cell? ⟨w.heap.size, 0, none⟩ = some (.slice An ns.length cn) ∧ w'.cell? ⟨w.heap.size, 1, none⟩ = some (.slice Ac cs.length cc)) ∧ Below w.heap.size w w' ∧ IsPlan w' An Ac ⟨ns, cs⟩ ∧ IsRec 1 cI 0 w' Al lv.length lv) :=
    fun w' hb => ⟨⟨(hb.cell (by exact sz1)).trans p0, (hb.cell (by exact sz1)).trans p1⟩, BW0.out.trans (hb.mono (by omega)), H1.out.below (Nat.le_refl _) hb, L1.out.below (Nat.le_refl _) hb⟩
  have ST : Hid (RelPt ns cs lv (pathP cs lv (ns.length + ns.length + 1) s m) w w1 (.slice none 0 0) (.slice none 0 0) (.int .i64 s) (.int .i64 m) w1) := by
    have l1 := (T.lt s hs).2
    have l2 := (T.lt m hm).2
    exact ⟨s, m, ns.length + ns.length + 1, [], [], none, 0, rfl, rfl, hs, hm, s0, m0, by push_cast; omega, by simp, by show ((0 : Nat) : Int) + ((0 : Nat) : Int) + _ + _ ≤ 100; omega, World.ownsRow_nil _ _ _ _, rfl, IsRec.nil _, fun x hx => (by cases hx), Below.refl _ _⟩
  generalize pathP cs lv (ns.length + ns.length + 1) s m = P at *
  obtain ⟨i0, hi0, hz0, hz1, hz2⟩ := info_parts infoInt
  clear h h2 hw1 s0 m0
  go_enter Try.func65, Try.ntmps65
  go_wp2_with fail
  rw [HW1.out]
  go_wp2_with fail
  go_loopw [9, 10, 11, 12] (fun v9 v10 va vb wr => RelPt ns cs lv P w w1 v9 v10 va vb wr) (fun _ _ va vb _ => (lvI lv va + lvI lv vb).toNat)
  case atStart => exact ST.out
  case round =>
    clear ST p0 p1
    obtain ⟨a, b, f, rise, fall, fa, fc, rfl, rfl, ha, hb, a0, b0, hf, hP, hlen, own, rfl, fr, fx, bel⟩ := hrel
    have HP := Lib.hid hP
    have OW := Lib.hid own
    have FR := Lib.hid fr
    have FX := Lib.hid fx
    have BE := Lib.hid bel
    have bsz := bel.size
    obtain ⟨⟨c0, c1⟩, bw, pl, lr⟩ := KC.out wr bel
    have BW := Lib.hid bw
    have la16 := HT.out.lt a ha
    have lb16 := HT.out.lt b hb
    obtain ⟨f, rfl⟩ : ∃ g, f = g + 1 := ⟨f - 1, by omega⟩
    by_cases hab : a = b
    · have F : Hid (rise ++ fall = P) := by rw [Hid, ← HP.out, pathP, if_pos hab, List.append_nil]
      have RF := Lib.hid (reads_of_rec cI_length fr)
      have FO := Lib.hid (cI_oneT fall)
      subst hab
      have hl1 : rise.length + fall.length ≤ 200 := by omega
      clear own fr fx bel bw pl lr hP
      go_wp2_with (at_builtin; refine wpList_append_any _ rfl (.tmp 71) (.tmp 72) 35 rfl w1.heap.size 3 i0 _ 1 8 Try.underlying35 hi0 hz0 hz1 hz2 rfl (by decide) _ _ _ rfl OW.out wr.heap.size fa fall.length fc (fall.flatMap cI) rfl RF.out FO.out ?m2fin ?m3fin ?m4fin ?_)
      case m2fin => unfold maxLen; omega
      case m3fin => omega
      case m4fin => omega
      intro v2 w2 own2 gr2 _
      have F2 : Hid (IntsPost P w (.returned v2) w2) := by
        refine ⟨v2, rfl, ?_, BW.out.grown gr2 (by omega) (fun g e => by have := (OW.out.lt g e).1; omega)⟩
        rw [← F.out, List.length_append, List.flatMap_append]; exact own_mono own2 (by omega)
      clear own2 gr2
      go_wp2_with fail
      go_ret
      exact F2.out
    · have habi : ((a : Int) != (b : Int)) = true := by simp; omega
      obtain ⟨ba, oa, hal, hba, hma, ea⟩ := int_at lr a (by have := HT.out.len; omega)
      obtain ⟨ba2, oa2, hal2, hba2, hmb, eb⟩ := int_at lr b (by have := HT.out.len; omega)
      rw [hal] at hal2
      injection hal2 with hal2
      injection hal2 with hal3 hal4
      subst hal3
      subst hal4
      have al : (a : Int) < (lv.length : Int) := by have := HT.out.len; omega
      have bl : (b : Int) < (lv.length : Int) := by have := HT.out.len; omega
      have B2 : Hid (∀ q, Below w1.heap.size w1 (wr.drewN q)) := fun q => below_drewN BE.out q
      have OW2 : Hid (∀ q, (wr.drewN q).ownsRow w1.heap.size 3 1 u9 rise.length (rise.flatMap cI)) := fun q => OW.out
      have FR2 : Hid (∀ q, IsRec 1 cI 0 (wr.drewN q) fa fall.length fall) := fun q => FR.out.below (Nat.le_refl _) (below_drewN (Below.refl _ _) q)
      have FX2 : Hid (∀ q, ∀ x, fa = some x → u9.ownBlock ≠ some x.block ∧ x.block < (wr.drewN q).heap.size) := fun q => FX.out
      rcases HT.out.rise_cases ha hb a0 b0 hab with ⟨hr, hal0, hle⟩ | ⟨hr, hbl0, hle⟩
      · obtain ⟨i, hi, hpi, hti, hpn, hpl⟩ := HT.out.up ha hal0
        have PC := Lib.hid (fun (w' : World) (hb' : Below w1.heap.size w1 w') => par23_any ns cs lv a An Ac Al cn cc cl w' HT.out ha hal0 (KC.out w' hb').2.2.1 (KC.out w' hb').2.2.2)
        rw [hpi] at PC
        have OC := Lib.hid (fun (w' : World) (hb' : Below w1.heap.size w1 w') => Other17_any cs An Ac ns.length cn cc i (a : Int) w' (by omega) ((KC.out w' hb').2.2.1).2 hi)
        have hom : otherV (cs.getD i cb0) (a : Int) = (pnT cs lv a : Int) := other_touch HT.out.hv (by simp [List.getD, hi]) hti
        rw [hom] at OC
        have NP : Hid (rise ++ [(i : Int)] ++ pathP cs lv f (pnT cs lv a) b ++ fall = P) := by
          rw [Hid, ← HP.out, pathP, if_neg hab, if_pos hr, hpi]; simp
        generalize hpa : pnT cs lv a = a' at *
        have NXT : Hid (∀ (v : Value) (wa : World), wa.ownsRow w1.heap.size 3 1 v (rise ++ [(i : Int)]).length ((rise ++ [(i : Int)]).flatMap cI) → IsRec 1 cI 0 wa fa fall.length fall → (∀ x, fa = some x → v.ownBlock ≠ some x.block ∧ x.block < wa.heap.size) → Below w1.heap.size w1 wa → RelPt ns cs lv P w w1 v (.slice fa fall.length fc) (.int .i64 a') (.int .i64 b) wa ∧ ((lvI lv (.int .i64 (a' : Int)) + lvI lv (.int .i64 (b : Int))).toNat < (lvI lv (.int .i64 (a : Int)) + lvI lv (.int .i64 (b : Int))).toNat)) := fun v wa ho hfr hfx hb' =>
          ⟨⟨a', b, f, rise ++ [(i : Int)], fall, fa, fc, rfl, rfl, hpn, hb, by omega, b0, by push_cast at hf; omega, NP.out, by rw [List.length_append, List.length_singleton]; push_cast; omega, ho, rfl, hfr, hfx, hb'⟩, by
            unfold lvI RowKit.intOf; simp only [Int.toNat_natCast]; omega⟩
        have hrl : rise.length ≤ 200 := by omega
        have hAB : lv.getD b 0 < lv.getD a 0 ∨ (¬ lv.getD b 0 < lv.getD a 0 ∧ lv.getD a 0 = lv.getD b 0 ∧ 0 < lv.getD a 0) := by
          rcases Int.lt_or_le (lv.getD b 0) (lv.getD a 0) with q | q
          · exact .inl q
          · exact .inr ⟨by omega, by omega, hal0⟩
        generalize lv.getD a 0 = xa at *
        generalize lv.getD b 0 = xb at *
        subst hal
        clear own fr fx bel bw pl lr hP hma hmb hr hom hpi hti hle hba2 hf hlen
        rcases hAB with hAB | ⟨hA1, hA2, hA3⟩
        all_goals
          try subst hA2
          go_wp2_with fail
          go_quiet (fail)
          clear ea eb
          have B2q := Lib.hid (B2.out nq)
          have OWq := Lib.hid (OW2.out nq)
          have FRq := Lib.hid (FR2.out nq)
          have FXq := Lib.hid (FX2.out nq)
          generalize wr.drewN nq = w2 at *
          obtain ⟨⟨d0, d1⟩, _⟩ := KC.out w2 B2q.out
          have PCq := Lib.hid (PC.out w2 B2q.out)
          clear B2 OW2 FR2 FX2 c0 c1
          go_wp2_with fail
          refine PCq.out.mono ?_
          rintro e w3 ⟨rfl, bel3⟩
          have B3 : Hid (Below w1.heap.size w1 w3) := B2q.out.trans (bel3.mono B2q.out.size)
          have OW3 : Hid (w3.ownsRow w1.heap.size 3 1 u9 rise.length (rise.flatMap cI)) := own_belowI OWq.out bel3
          have FR3 : Hid (IsRec 1 cI 0 w3 fa fall.length fall) := FRq.out.below (Nat.le_refl _) bel3
          have FX3 : Hid (∀ x, fa = some x → u9.ownBlock ≠ some x.block ∧ x.block < w3.heap.size) := fun x hx => ⟨(FXq.out x hx).1, Nat.lt_of_lt_of_le (FXq.out x hx).2 bel3.size⟩
          have sz3 := B3.out.size
          clear bel3 d0 d1 PCq
          go_wp2_with (at_builtin; refine wpList_append_any _ rfl (.tmp 51) (.tmp 53) 35 rfl w1.heap.size 3 i0 _ 1 8 Try.underlying35 hi0 hz0 hz1 hz2 rfl (by decide) _ _ _ rfl (OW3.out.alloc _) (w3.heap.size + 1) (some ⟨w3.heap.size, 0, none⟩) 1 1 [.int .i64 (i : Int)] rfl (reads_newI w3 3 #[.int .i64 (i : Int)] rfl) ?_ ?_ ?_ ?_ ?_; (first | rfl | (intro u hu; simp at hu; subst hu; rfl)); (unfold maxLen; omega); omega; (first | omega | (simp; omega)); intro v4 w4 own4 gr4 loc4; have OW4 := Lib.hid (own_snocI own4); have B4 : Hid (Below w1.heap.size w1 w4) := (B3.out.alloc B3.out.size _).grown gr4 (by simp; omega) (fun g e => (OW3.out.lt g e).1); have FR4 : Hid (IsRec 1 cI 0 w4 fa fall.length fall) := (FR3.out.alloc _).grown gr4 (fun x hx e => (FX3.out x hx).1 e.symm); have FX4 : Hid (∀ x, fa = some x → v4.ownBlock ≠ some x.block ∧ x.block < w4.heap.size) := fixT FX3.out gr4 loc4; obtain ⟨⟨d0, d1⟩, _⟩ := KC.out w4 B4.out; have OCq := Lib.hid (OC.out w4 B4.out); clear own4 gr4 loc4)
          refine OCq.out.mono ?_
          rintro e w5 ⟨rfl, bel5⟩
          have N5 := Lib.hid (NXT.out v4 w5 (own_belowI OW4.out bel5) (FR4.out.below (Nat.le_refl _) bel5) (fun x hx => ⟨(FX4.out x hx).1, Nat.lt_of_lt_of_le (FX4.out x hx).2 bel5.size⟩) (B4.out.trans (bel5.mono B4.out.size)))
          clear bel5 d0 d1 OCq
          go_wp2_with fail
          exact N5.out
      · obtain ⟨i, hi, hpi, hti, hpn, hpl⟩ := HT.out.up hb hbl0
        have PC := Lib.hid (fun (w' : World) (hb' : Below w1.heap.size w1 w') => par23_any ns cs lv b An Ac Al cn cc cl w' HT.out hb hbl0 (KC.out w' hb').2.2.1 (KC.out w' hb').2.2.2)
        rw [hpi] at PC
        have OC := Lib.hid (fun (w' : World) (hb' : Below w1.heap.size w1 w') => Other17_any cs An Ac ns.length cn cc i (b : Int) w' (by omega) ((KC.out w' hb').2.2.1).2 hi)
        have hom : otherV (cs.getD i cb0) (b : Int) = (pnT cs lv b : Int) := other_touch HT.out.hv (by simp [List.getD, hi]) hti
        rw [hom] at OC
        have NP : Hid (rise ++ pathP cs lv f a (pnT cs lv b) ++ ((i : Int) :: fall) = P) := by
          rw [Hid, ← HP.out, pathP, if_neg hab, if_neg (by rw [hr]; simp), hpi]; simp
        generalize hpb : pnT cs lv b = b' at *
        have NXT : Hid (∀ (v v' : Value) (wa : World) (fa' : Option Addr) (fc' : Nat), v' = .slice fa' ((i : Int) :: fall).length fc' → wa.ownsRow w1.heap.size 3 1 v rise.length (rise.flatMap cI) → IsRec 1 cI 0 wa fa' ((i : Int) :: fall).length ((i : Int) :: fall) → (∀ x, fa' = some x → v.ownBlock ≠ some x.block ∧ x.block < wa.heap.size) → Below w1.heap.size w1 wa → RelPt ns cs lv P w w1 v v' (.int .i64 a) (.int .i64 b') wa ∧ ((lvI lv (.int .i64 (a : Int)) + lvI lv (.int .i64 (b' : Int))).toNat < (lvI lv (.int .i64 (a : Int)) + lvI lv (.int .i64 (b : Int))).toNat)) := fun v v' wa fa' fc' hv' ho hfr hfx hb' =>
          ⟨⟨a, b', f, rise, (i : Int) :: fall, fa', fc', rfl, rfl, ha, hpn, a0, by omega, by push_cast at hf; omega, NP.out, by rw [List.length_cons]; push_cast; omega, ho, hv', hfr, hfx, hb'⟩, by
            unfold lvI RowKit.intOf; simp only [Int.toNat_natCast]; omega⟩
        have hfl : fall.length ≤ 200 := by omega
        have hle2 : ¬ lv.getD b 0 < lv.getD a 0 := by omega
        have hne2 : lv.getD a 0 ≠ lv.getD b 0 := fun e => by
          unfold riseB at hr
          rw [decide_eq_false hle2, decide_eq_true e, decide_eq_true (by omega : 0 < lv.getD a 0)] at hr
          cases hr
        generalize lv.getD a 0 = xa at *
        generalize lv.getD b 0 = xb at *
        subst hal
        clear own fr fx bel bw pl lr hP hma hmb hr hom hpi hti hle hba2 hf hlen
        go_wp2_with fail
        go_quiet (fail)
        clear ea eb
        have B2q := Lib.hid (B2.out nq)
        have OWq := Lib.hid (OW2.out nq)
        have FRq := Lib.hid (FR2.out nq)
        have FXq := Lib.hid (FX2.out nq)
        generalize wr.drewN nq = w2 at *
        obtain ⟨⟨d0, d1⟩, _⟩ := KC.out w2 B2q.out
        have PCq := Lib.hid (PC.out w2 B2q.out)
        clear B2 OW2 FR2 FX2 c0 c1
        go_wp2_with fail
        refine PCq.out.mono ?_
        rintro e w3 ⟨rfl, bel3⟩
        have B3 : Hid (Below w1.heap.size w1 w3) := B2q.out.trans (bel3.mono B2q.out.size)
        have OW3 : Hid (w3.ownsRow w1.heap.size 3 1 u9 rise.length (rise.flatMap cI)) := own_belowI OWq.out bel3
        have FR3 : Hid (IsRec 1 cI 0 w3 fa fall.length fall) := FRq.out.below (Nat.le_refl _) bel3
        have sz3 := B3.out.size
        have RFF := Lib.hid (reads_of_rec cI_length (FR3.out.alloc (.cells #[.int .i64 (i : Int)] 3)))
        have FOF := Lib.hid (cI_oneT fall)
        clear bel3 d0 d1 PCq
        go_wp2_with (at_builtin; refine wpList_append_any _ rfl (.tmp 64) (.tmp 65) 35 rfl w3.heap.size 3 i0 _ 1 8 Try.underlying35 hi0 hz0 hz1 hz2 rfl (by decide) _ 1 [.int .i64 (i : Int)] rfl (own_litI w3 3 (.int .i64 (i : Int)) (Nat.le_refl _)) (w3.alloc (.cells #[.int .i64 (i : Int)] 3)).heap.size fa fall.length fc (fall.flatMap cI) rfl RFF.out FOF.out ?_ ?_ ?_ ?_; (unfold maxLen; omega); omega; (simp <;> omega); intro v4 w4 own4 gr4 loc4; have G4 := fallT OW3.out own4 gr4; have B4 : Hid (Below w1.heap.size w1 w4) := B3.out.trans (G4.1.mono B3.out.size); have OW4 := Lib.hid G4.2.1; have F4 := Lib.hid G4.2.2; obtain ⟨⟨d0, d1⟩, _⟩ := KC.out w4 B4.out; have OCq := Lib.hid (OC.out w4 B4.out); clear own4 gr4 loc4 G4)
        refine OCq.out.mono ?_
        rintro e w5 ⟨rfl, bel5⟩
        obtain ⟨fa', fc', hv', hr', hx'⟩ := F4.out
        have N5 := Lib.hid (NXT.out u9 v4 w5 fa' fc' hv' (own_belowI OW4.out bel5) (hr'.below (Nat.le_refl _) bel5) (fun x hx => ⟨(hx' x hx).1, Nat.lt_of_lt_of_le (hx' x hx).2 bel5.size⟩) (B4.out.trans (bel5.mono B4.out.size)))
        subst hv'
        clear bel5 d0 d1 OCq hr' hx'
        go_wp2_with fail
        exact N5.out
end Go.Proofs.Ytljojgpjgjfddaa
