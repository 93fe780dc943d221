/- The walk of the law EpochTwo. -/
import Derived.Test.YtkdgfjjljokkhaaSim
import Derived.Test.YtkdgfjjljokkhaaMaps
import Derived.Test.YtkdgfjjljokkhaaFrame
import Derived.Deep.RegionLaw
namespace Go.Proofs.Ytkdgfjjljokkhaa.epochTwoW
open Go.RowKit Go.Maps
set_option linter.unusedVariables false

theorem own_cut {w : World} {base e g n cap : Nat} {xs : List Value} (h : w.ownsRow base e 1 (.slice (some ⟨g, 0, none⟩) n cap) n xs) (k : Nat) (hk : k ≤ n) : w.ownsRow base e 1 (.slice (some ⟨g, 0, none⟩) k cap) k (xs.take k) := by
  have hl := h.1
  refine ⟨by simp; omega, ?_⟩
  rcases h.2 with ⟨h0, -⟩ | ⟨g', cap', cur, hv, hb, hg, hnc, hcm, hcs, htk⟩
  · cases h0
  · injection hv with h1 h2 h3
    injection h1 with h1
    injection h1 with h1
    subst h1 h3
    refine .inr ⟨g, cap, cur, rfl, hb, hg, by omega, hcm, hcs, ?_⟩
    rw [← htk, List.take_take]
    congr 1
    omega

/-- Frames of at most two epochs are alive. -/
theorem sim_mem {m : Nat} {n x y : Int} {L : List Int} (h : Inv m n x y) (s : Sim n x y L) : ∀ e ∈ L, 0 ≤ e ∧ (e = n ∨ e = n - 1) := by
  intro e he
  have hp : 0 < L.count e := List.count_pos_iff.2 he
  have hs := s e
  have ha := alv_cases n x y e
  omega
theorem two_counts (L : List Int) (n : Int) (h : ∀ e ∈ L, e = n ∨ e = n - 1) : L.length = L.count n + L.count (n - 1) := by
  induction L with
  | nil => rfl
  | cons a l ih =>
    have hl := ih fun e he => h e (List.mem_cons_of_mem _ he)
    have ha := h a List.mem_cons_self
    rw [List.length_cons, List.count_cons, List.count_cons]
    rcases ha with rfl | rfl
    · rw [if_pos (by simp), if_neg (by simp; omega)]; omega
    · rw [if_neg (by simp; omega), if_pos (by simp)]; omega
theorem sim_length {m : Nat} {n x y : Int} {L : List Int} (h : Inv m n x y) (s : Sim n x y L) : alv n x y n + alv n x y (n - 1) = (L.length : Int) := by
  have h1 := two_counts L n fun e he => (sim_mem h s e he).2
  have h2 := s n
  have h3 := s (n - 1)
  omega

/-- The virtual classes that are used, with their epochs. -/
def Used (n q : Int) (M : Lit → Option Value) : Prop :=
  ∀ a v, M (.int .i64 a) = some v → ∃ x c : Int, v = .int .i64 x ∧ 0 ≤ x ∧ (x = n ∨ x = n - 1) ∧ 0 ≤ c ∧ c < q ∧ a = c + q * (x % 2)
theorem Used.none_ (n q : Int) : Used n q (fun _ => none) := fun a v h => by cases h
theorem Used.put {n q : Int} {M : Lit → Option Value} (h : Used n q M) (x c : Int) (hx0 : 0 ≤ x) (hx : x = n ∨ x = n - 1) (hc0 : 0 ≤ c) (hc : c < q) : Used n q (putM M (.int .i64 (c + q * (x % 2))) (.int .i64 x)) := by
  intro a v hv
  unfold putM at hv
  by_cases e : (Lit.int .i64 a).sameKey (.int .i64 (c + q * (x % 2))) = true
  · rw [if_pos e] at hv
    injection hv with hv
    simp only [Lit.sameKey, true_and, decide_eq_true_eq] at e
    exact ⟨x, c, hv.symm, hx0, hx, hc0, hc, e⟩
  · rw [if_neg e] at hv
    exact h a v hv
/-- What is found at a virtual class is its own epoch. -/
theorem Used.same {n q : Int} {M : Lit → Option Value} (h : Used n q M) {x c : Int} (hx0 : 0 ≤ x) (hx : x = n ∨ x = n - 1) (hc0 : 0 ≤ c) (hc : c < q) (hq : 1 ≤ q) {v : Value} (hv : M (.int .i64 (c + q * (x % 2))) = some v) : v = .int .i64 x := by
  obtain ⟨x2, c2, rfl, h0, h1, h2, h3, h4⟩ := h _ _ hv
  have e : x2 = x := by
    rcases (by omega : x % 2 = 0 ∨ x % 2 = 1) with a | a <;> rcases (by omega : x2 % 2 = 0 ∨ x2 % 2 = 1) with b | b <;> rw [a, b] at h4 <;> omega
  rw [e]

theorem lawInt2 : Keyed Try.prog 3 := int_keyed Try.underlying3
theorem zeroInt (w : World) : (zeroValue 3).run Try.prog w = .ok (.int .i64 0) w := by kernel_rfl

def Rel (len : Nat) (w : World) (g base : Nat) (v i : Value) (wr : World) : Prop :=
  ∃ k : Nat, k ≤ len ∧ i = .int .i64 k ∧ base ≤ wr.heap.size ∧ ∃ (n x y : Int) (L : List Int), Bk wr g n x y ∧ Inv k n x y ∧ Sim n x y L ∧ L.length ≤ k ∧
    wr.ownsRow base 3 1 v L.length (L.map (Value.int .i64)) ∧ Below w.heap.size w wr
def RelU (n q : Int) (L : List Int) (wt : World) (i : Value) (wr : World) : Prop :=
  ∃ (j cnt : Nat) (M : Lit → Option Value), j ≤ L.length ∧ i = .int .i64 j ∧ cnt ≤ 4 * j ∧ OMap wr Try.prog 3 wt.heap.size cnt M ∧ Used n q M ∧ Below wt.heap.size wt wr
def RelC (n q : Int) (j : Nat) (wt : World) (i : Value) (wr : World) : Prop :=
  ∃ (c cnt : Nat) (M : Lit → Option Value), (c : Int) ≤ q ∧ i = .int .i64 c ∧ cnt ≤ 4 * j + c ∧ OMap wr Try.prog 3 wt.heap.size cnt M ∧ Used n q M ∧ Below wt.heap.size wt wr

set_option maxRecDepth 100000 in
set_option maxHeartbeats 8000000 in
theorem walk (a0 : Option Addr) (len0 cap0 : Nat) (z0 : List (List Int)) (a1 : Int) (w : World) (w0 : IsStructs 2 w a0 len0 z0) (w1 : (Lit.int .u8 a1).wf = true) :
    Calls Try.prog 4 #[.slice a0 len0 cap0, .int .u8 a1] w fun e w' => e = .returned (.bool true) ∧ Below w.heap.size w w' := by
  obtain ⟨hm, hzl, hwf, hcells⟩ := w0
  obtain ⟨k10, k11⟩ := bounds_u8 w1
  clear w1
  unfold maxLen at hm
  by_cases hlen : 60 < len0
  · go_enter Try.func4, Try.ntmps4
    go_wp2_with fail
    refine (awake_any _).mono ?_
    rintro r w1 ⟨rfl, l1⟩
    go_wp2
    go_ret
    exact ⟨rfl, l1⟩
  have HC := Lib.hid hcells
  clear hzl hwf hcells
  obtain ⟨i0, hi0, hz0, hz1, hz2⟩ := info_parts infoInt
  go_enter Try.func4, Try.ntmps4
  go_wp2_with fail
  refine (awake_any _).mono ?_
  rintro r w1 ⟨rfl, l1⟩
  go_wp2_with fail
  refine (new_bk _).mono ?_
  rintro r w2 ⟨g, rfl, hg, b2, l2⟩
  have hg0 : w.heap.size ≤ g := Nat.le_trans l1.size hg
  have l3 : Below w.heap.size w w2 := l1.trans (l2.mono l1.size)
  have hgw : g < w2.heap.size := b2.lt
  clear l1 l2 hg
  have ST : Hid (Rel len0 w g w2.heap.size (.slice none 0 0) (.int .i64 0) w2) :=
    ⟨0, Nat.zero_le _, rfl, Nat.le_refl _, 0, 0, 0, [], b2, Inv.start, sim_start, Nat.le_refl _, World.ownsRow_nil _ _ _ _, l3⟩
  go_wp2_with fail
  have qb : 1 ≤ 1 + a1 % 4 ∧ 1 + a1 % 4 ≤ 4 := by omega
  generalize 1 + a1 % 4 = q at *
  generalize w2.heap.size = base at *
  clear b2 l3
  obtain ⟨q1, q4⟩ := qb
  go_loopw [7, 32] (fun v i wr => Rel len0 w g base v i wr) (fun _ i _ => len0 - (intOf i).toNat)
  case atStart => exact ST.out
  case round =>
    clear ST
    obtain ⟨k, hk, rfl, hbw, n, x, y, L, b, inv, sim, hLk, own, bel⟩ := hrel
    by_cases hlt : k < len0
    · obtain ⟨bb, off, ha0, hbb, hc⟩ := HC.out (by omega)
      have c0 : wr.cell? ⟨bb, off + k * 2, none⟩ = some (.int .i64 ((z0.getD k []).getD 0 0)) := (bel.cell (p := ⟨bb, off + k * 2, none⟩) hbb).trans (hc k 0 hlt (by omega))
      have c1 : wr.cell? ⟨bb, off + k * 2 + 1, none⟩ = some (.int .i64 ((z0.getD k []).getD 1 0)) := (bel.cell (p := ⟨bb, off + k * 2 + 1, none⟩) hbb).trans (hc k 1 hlt (by omega))
      clear hc
      subst ha0
      generalize (z0.getD k []).getD 0 0 = kk at *
      generalize (z0.getD k []).getD 1 0 = ee at *
      clear HC
      obtain ⟨c, n', x', y', L', ac⟩ := act_case kk ee n x y L inv (by omega) sim
      have LL := ac.length
      have inv' := inv.step ac.1
      obtain ⟨wa, hwa⟩ : ∃ wa, wa = wr.alloc (.cells #[.int .i64 kk, .int .i64 ee] 30) := ⟨_, rfl⟩
      have ba : Bk wa g n x y := hwa ▸ Blk.alloc b _
      have ta : Blk wa wr.heap.size 30 #[.int .i64 kk, .int .i64 ee] := hwa ▸ Blk.new _ _ _
      have owna : wa.ownsRow base 3 1 u7 L.length (L.map (Value.int .i64)) := hwa ▸ own.alloc _
      have bela : Below w.heap.size w wa := hwa ▸ bel.alloc bel.size _
      have sa : wr.heap.size < wa.heap.size := ta.lt
      have ct0' : (wr.alloc (.cells #[.int .i64 kk, .int .i64 ee] 30)).cell? ⟨wr.heap.size, 0, none⟩ = some (.int .i64 kk) := hwa ▸ ta.cell 0
      have HWA := Lib.hid hwa
      clear hwa
      have hge : ∀ p, u7.ownBlock = some p → base ≤ p ∧ p < wr.heap.size := fun p e => own.lt p e
      have HGE := Lib.hid hge
      have n0 := inv.n0
      have n1 := inv.n1
      have m0 := inv'.n0
      have m1 := inv'.n1
      clear own bel b hge ct0'
      go_wp2_with fail
      rw [← HWA.out]
      refine (do_det k kk ee n x y c n' x' y' g _ ba inv (by omega) ac.1).mono ?_
      rintro r w4 ⟨rfl, b4, gr4⟩
      have own4 := owna.kept gr4 (by rcases hv : u7.ownBlock with _ | p; · simp
                                     · right; have := (HGE.out p hv).1; simp; omega)
      have t4 := ta.grown gr4 (by simp; omega)
      have bel4 := bela.grown gr4 bela.size (by intro p e; injection e with e; omega)
      have s4 : wr.heap.size < w4.heap.size := Nat.lt_of_lt_of_le sa gr4.size
      clear c0 c1 HWA ba ta owna bela gr4
      generalize wr.heap.size = tb at *
      have ct0 : w4.cell? ⟨tb, 0, none⟩ = some (.int .i64 kk) := t4.cell 0
      have ct1 : w4.cell? ⟨tb, 0 + 1, none⟩ = some (.int .i64 ee) := t4.cell 1
      have SIM := Lib.hid sim
      have INV := Lib.hid inv
      obtain ⟨st, sim', cs⟩ := ac
      have SIM' := Lib.hid sim'
      have INV' := Lib.hid inv'
      clear sim sim' st inv inv'
      by_cases hc0 : c = 0
      · subst hc0
        have hmm := @run_makeMap Try.prog
        rcases cs with ⟨-, -, h1, -, -⟩ | ⟨rfl, hee, -, hnn, hLL⟩ | ⟨-, -, h1, -, -⟩ | ⟨-, -, h1, -, -⟩ | ⟨rfl, ⟨he0, he1, j, hj, hat, hbef, hLL⟩, -, hnn⟩ | ⟨-, -, h1, -, -⟩ | ⟨hk01, hcnt, -, hn', rfl⟩
        case inl => split at h1 <;> cases h1
        case inr.inr.inl => cases h1
        case inr.inr.inr.inl => cases h1
        case inr.inr.inr.inr.inr.inl => cases h1
        case inr.inl =>
          have hnu : some g ≠ u7.ownBlock := by intro e; have := (HGE.out _ e.symm).1; omega
          subst hnn
          subst hee
          have hLL' : L.map (Value.int .i64) ++ [.int .i64 ee] = L'.map (Value.int .i64) := by rw [hLL]; simp
          have hLn : L.length + 1 = L'.length := by rw [hLL]; simp
          have HLL := Lib.hid hLL'
          have HLN := Lib.hid hLn
          clear hLL hLL' hLn
          go_wp2_with (at_builtin; refine wpList_append_own _ rfl (.tmp 44) (.tmp 47) 26 rfl base 3 i0 _ 1 8 Try.underlying26 hi0 hz0 hz1 hz2 rfl (by decide) _ _ _ rfl (own4.alloc _) ⟨w4.heap.size, 0, none⟩ 1 1 [.int .i64 ee] rfl rfl ?d1 ?d2 ?d3 ?d4 ?d5 ?_)
          case d1 => exact cell_one_new _ _ _
          case d2 => intro u hu; simp at hu; subst hu; rfl
          case d3 => unfold maxLen; omega
          case d4 => omega
          case d5 => simp; omega
          intro v5 wt ownt gr5 _
          rw [HLL.out, HLN.out] at ownt
          have bt : Bk wt g ee x' y' := Blk.grown (Blk.alloc b4 _) gr5 hnu
          have belt := (bel4.alloc bel4.size _).grown gr5 (by have := bel4.size; simp; omega) (by intro p e; have := (HGE.out _ e).1; omega)
          have hst : tb < wt.heap.size := by have := gr5.size; simp at this; omega
          clear own4 b4 bel4 t4 gr5 ct0 ct1 s4
          generalize hnn : ee = n' at *
          clear hnn
          obtain ⟨a7, cap7, hv7, _, isl7, _⟩ := list_of_own ownt
          rw [hv7] at ownt ⊢
          have OWNT := Lib.hid ownt
          have ISL := Lib.hid isl7
          have BT := Lib.hid bt
          have BELT := Lib.hid belt
          have MEM := Lib.hid (sim_mem INV'.out SIM'.out)
          have LEN := Lib.hid (sim_length INV'.out SIM'.out)
          have SL := Lib.hid isl7.1
          clear ownt isl7 bt belt hv7
          go_wp2_with fail
          clear hmm
          go_loopw [74] (fun i wr => RelU n' q L' wt i wr) (fun i _ => L'.length - (intOf i).toNat)
          case atStart => exact ⟨0, 0, _, Nat.zero_le _, rfl, Nat.le_refl _, OMap.made _ _ _, Used.none_ _ _, (Below.refl _ _).alloc (Nat.le_refl _) _⟩
          case round =>
            obtain ⟨j, cnt, M, hj, rfl, hcnt, om, us, belj⟩ := hrel
            by_cases hjl : j < L'.length
            · obtain ⟨b7, o7, e7, g7, hc7⟩ := (ISL.out.below (Nat.le_refl _) belj).2 (by omega)
              have cj := hc7 j hjl
              have hmem : L'.getD j 0 ∈ L' := by simp [List.getD, hjl]
              have hx := MEM.out _ hmem
              clear hc7 hmem
              generalize L'.getD j 0 = xx at *
              obtain ⟨xx0, hxx⟩ := hx
              have bj : Bk wr g n' x' y' := Blk.below BT.out belj (BT.out.lt)
              have US := Lib.hid us
              have OM := Lib.hid om
              have HXX := Lib.hid hxx
              clear us om
              subst e7
              have xxb : xx ≤ 61 := by omega
              have HXX2 := Lib.hid hxx
              by_cases hxn : xx = n'
              · have hb1 : (xx != n') = false := by rw [hxn]; simp
                clear hxn hxx
                go_wp2_with fail
                refine (now_any g n' x' y' _ bj).mono ?_
                rintro r w' ⟨rfl, rfl⟩
                go_wp2_with fail
                obtain ⟨wo, rfl⟩ : ∃ wo : World, wo = wr := ⟨_, rfl⟩
                go_loopw [90] (fun i wr => RelC n' q j wt i wr) (fun i _ => q.toNat - (intOf i).toNat)
                case atStart => exact ⟨0, cnt, M, by omega, rfl, by omega, OM.out, US.out, belj⟩
                case round =>
                  obtain ⟨d, cnt2, M2, hdq, rfl, hcnt2, om2, us2, bel2⟩ := hrel
                  by_cases hdl : (d : Int) < q
                  · have vb : 0 ≤ (d : Int) + q * (xx % 2) ∧ (d : Int) + q * (xx % 2) < 2 * q := by
                      rcases (by omega : xx % 2 = 0 ∨ xx % 2 = 1) with h | h <;> rw [h] <;> omega
                    have UP := Lib.hid (us2.put xx d xx0 HXX.out (by omega) hdl)
                    have SA : Hid (∀ v, M2 (.int .i64 ((d : Int) + q * (xx % 2))) = some v → v = .int .i64 xx) := fun v hv => us2.same xx0 HXX.out (by omega) hdl q1 hv
                    clear us2
                    go_wp2_with fail
                    refine (class_ok xx d q _ xx0 q1 q4 (by omega) hdl).mono ?_
                    rintro r w' ⟨rfl, rfl⟩
                    generalize (d : Int) + q * (xx % 2) = vv at *
                    obtain ⟨vv0, vv1⟩ := vb
                    have HK : Hid (keyOf Try.prog 3 (.int .i64 vv) = some (.int .i64 vv)) := keyOf_int_mk Try.underlying3 (WalkArith.wf_i64 (by omega))
                    have R : Hid (∀ w5, OMap w5 Try.prog 3 wt.heap.size (cnt2 + 1) (putM M2 (.int .i64 vv) (.int .i64 xx)) → wr.grownBy w5 (some wt.heap.size) → RelC n' q j wt (.int .i64 ((d + 1 : Nat) : Int)) w5) := by
                      intro w5 om5 gr5
                      exact ⟨d + 1, cnt2 + 1, _, by omega, rfl, by omega, om5, UP.out, bel2.grown gr5 bel2.size (by intro p e; injection e with e; omega)⟩
                    have cb : cnt2 < maxLen := by unfold maxLen; omega
                    cases hM : M2 (.int .i64 vv) with
                    | none =>
                      have HM := Lib.hid hM
                      clear hM UP SA
                      go_wp2_with (first | (at_lookup; refine wpList_look_ok _ rfl _ _ 40 rfl 3 3 lawInt2 Try.underlying40 (.int .i64 0) (zeroInt _) wt.heap.size _ _ rfl om2 _ (.int .i64 vv) rfl HK.out ?_; simp only [HM.out, Option.getD_none, Option.isSome_none]) | (at_mapUpdate; refine wpList_put _ rfl _ _ _ 40 rfl 3 3 lawInt2 Try.underlying40 wt.heap.size cnt2 _ rfl om2 cb _ _ (.int .i64 vv) rfl rfl HK.out ?_; intro w5 om5 gr5; have RR := Lib.hid (R.out w5 om5 gr5); clear om5 gr5))
                      exact ⟨by simpa using RR.out, by simp [intOf]; omega⟩
                    | some val =>
                      have hval := SA.out val hM
                      subst hval
                      have HM := Lib.hid hM
                      clear hM UP SA
                      have hxe : (xx != xx) = false := by simp
                      go_wp2_with (first | (at_lookup; refine wpList_look_ok _ rfl _ _ 40 rfl 3 3 lawInt2 Try.underlying40 (.int .i64 0) (zeroInt _) wt.heap.size _ _ rfl om2 _ (.int .i64 vv) rfl HK.out ?_; simp only [HM.out, Option.getD_some, Option.isSome_some]) | (at_mapUpdate; refine wpList_put _ rfl _ _ _ 40 rfl 3 3 lawInt2 Try.underlying40 wt.heap.size cnt2 _ rfl om2 cb _ _ (.int .i64 vv) rfl rfl HK.out ?_; intro w5 om5 gr5; have RR := Lib.hid (R.out w5 om5 gr5); clear om5 gr5))
                      exact ⟨by simpa using RR.out, by simp [intOf]; omega⟩
                  · have R : Hid (RelU n' q L' wt (.int .i64 ((j + 1 : Nat) : Int)) wr) := ⟨j + 1, cnt2, M2, by omega, rfl, by omega, om2, us2, bel2⟩
                    go_wp2_with fail
                    exact ⟨by simpa using R.out, by simp [intOf]; omega⟩
              · have hb1 : (xx != n') = true := by rw [bne_iff_ne]; exact hxn
                have hb2 : (xx != n' - 1) = false := by
                  have := HXX2.out
                  have e : xx = n' - 1 := by omega
                  rw [e]; simp
                clear hxn hxx
                go_wp2_with fail
                refine (now_any g n' x' y' _ bj).mono ?_
                rintro r w' ⟨rfl, rfl⟩
                go_wp2_with fail
                refine (now_any g n' x' y' _ bj).mono ?_
                rintro r w' ⟨rfl, rfl⟩
                go_wp2_with fail
                obtain ⟨wo, rfl⟩ : ∃ wo : World, wo = wr := ⟨_, rfl⟩
                go_loopw [90] (fun i wr => RelC n' q j wt i wr) (fun i _ => q.toNat - (intOf i).toNat)
                case atStart => exact ⟨0, cnt, M, by omega, rfl, by omega, OM.out, US.out, belj⟩
                case round =>
                  obtain ⟨d, cnt2, M2, hdq, rfl, hcnt2, om2, us2, bel2⟩ := hrel
                  by_cases hdl : (d : Int) < q
                  · have vb : 0 ≤ (d : Int) + q * (xx % 2) ∧ (d : Int) + q * (xx % 2) < 2 * q := by
                      rcases (by omega : xx % 2 = 0 ∨ xx % 2 = 1) with h | h <;> rw [h] <;> omega
                    have UP := Lib.hid (us2.put xx d xx0 HXX.out (by omega) hdl)
                    have SA : Hid (∀ v, M2 (.int .i64 ((d : Int) + q * (xx % 2))) = some v → v = .int .i64 xx) := fun v hv => us2.same xx0 HXX.out (by omega) hdl q1 hv
                    clear us2
                    go_wp2_with fail
                    refine (class_ok xx d q _ xx0 q1 q4 (by omega) hdl).mono ?_
                    rintro r w' ⟨rfl, rfl⟩
                    generalize (d : Int) + q * (xx % 2) = vv at *
                    obtain ⟨vv0, vv1⟩ := vb
                    have HK : Hid (keyOf Try.prog 3 (.int .i64 vv) = some (.int .i64 vv)) := keyOf_int_mk Try.underlying3 (WalkArith.wf_i64 (by omega))
                    have R : Hid (∀ w5, OMap w5 Try.prog 3 wt.heap.size (cnt2 + 1) (putM M2 (.int .i64 vv) (.int .i64 xx)) → wr.grownBy w5 (some wt.heap.size) → RelC n' q j wt (.int .i64 ((d + 1 : Nat) : Int)) w5) := by
                      intro w5 om5 gr5
                      exact ⟨d + 1, cnt2 + 1, _, by omega, rfl, by omega, om5, UP.out, bel2.grown gr5 bel2.size (by intro p e; injection e with e; omega)⟩
                    have cb : cnt2 < maxLen := by unfold maxLen; omega
                    cases hM : M2 (.int .i64 vv) with
                    | none =>
                      have HM := Lib.hid hM
                      clear hM UP SA
                      go_wp2_with (first | (at_lookup; refine wpList_look_ok _ rfl _ _ 40 rfl 3 3 lawInt2 Try.underlying40 (.int .i64 0) (zeroInt _) wt.heap.size _ _ rfl om2 _ (.int .i64 vv) rfl HK.out ?_; simp only [HM.out, Option.getD_none, Option.isSome_none]) | (at_mapUpdate; refine wpList_put _ rfl _ _ _ 40 rfl 3 3 lawInt2 Try.underlying40 wt.heap.size cnt2 _ rfl om2 cb _ _ (.int .i64 vv) rfl rfl HK.out ?_; intro w5 om5 gr5; have RR := Lib.hid (R.out w5 om5 gr5); clear om5 gr5))
                      exact ⟨by simpa using RR.out, by simp [intOf]; omega⟩
                    | some val =>
                      have hval := SA.out val hM
                      subst hval
                      have HM := Lib.hid hM
                      clear hM UP SA
                      have hxe : (xx != xx) = false := by simp
                      go_wp2_with (first | (at_lookup; refine wpList_look_ok _ rfl _ _ 40 rfl 3 3 lawInt2 Try.underlying40 (.int .i64 0) (zeroInt _) wt.heap.size _ _ rfl om2 _ (.int .i64 vv) rfl HK.out ?_; simp only [HM.out, Option.getD_some, Option.isSome_some]) | (at_mapUpdate; refine wpList_put _ rfl _ _ _ 40 rfl 3 3 lawInt2 Try.underlying40 wt.heap.size cnt2 _ rfl om2 cb _ _ (.int .i64 vv) rfl rfl HK.out ?_; intro w5 om5 gr5; have RR := Lib.hid (R.out w5 om5 gr5); clear om5 gr5))
                      exact ⟨by simpa using RR.out, by simp [intOf]; omega⟩
                  · have R : Hid (RelU n' q L' wt (.int .i64 ((j + 1 : Nat) : Int)) wr) := ⟨j + 1, cnt2, M2, by omega, rfl, by omega, om2, us2, bel2⟩
                    go_wp2_with fail
                    exact ⟨by simpa using R.out, by simp [intOf]; omega⟩
            · have bj : Bk wr g n' x' y' := Blk.below BT.out belj (BT.out.lt)
              have belf : Below w.heap.size w wr := BELT.out.trans (belj.mono BELT.out.size)
              have ownf := OWNT.out.kept (only_of_below belj none) (by cases hv : (Value.slice a7 L'.length cap7).ownBlock <;> simp)
              have R : Hid (Rel len0 w g base (.slice a7 L'.length cap7) (.int .i64 ((k + 1 : Nat) : Int)) wr) := ⟨k + 1, by omega, rfl, by have := belj.size; omega, n', x', y', L', bj, INV'.out, SIM'.out, by omega, ownf, belf⟩
              have len := LEN.out
              obtain ⟨an0, an1⟩ := alv_nonneg INV'.out n'
              obtain ⟨am0, am1⟩ := alv_nonneg INV'.out (n' - 1)
              clear ownf belf om us belj OWNT ISL BT BELT
              go_wp2_with (first | (go_at_call 17; refine (now_any g n' x' y' _ bj).mono ?_; rintro r w' ⟨rfl, rfl⟩) | (go_at_call 18; refine (alive_any g n' x' y' _ _ bj (by omega) (by omega)).mono ?_; rintro r w' ⟨rfl, rfl⟩))
              exact ⟨by simpa using R.out, by simp [intOf]; omega⟩
        case inr.inr.inr.inr.inl =>
          subst hnn
          obtain ⟨g7, cp7, hv, hb7, hl7⟩ := own4.form (by omega)
          have hnu : some g ≠ some g7 := by simp; omega
          have gge : base ≤ g7 := hb7
          rw [hv] at own4 ⊢
          obtain ⟨a8, cap8, hv8, hcp8, isl8, _⟩ := list_of_own own4
          injection hv8 with hv8 _ hcc
          subst hv8 hcc
          have ISL8 := Lib.hid isl8
          have HBEF := Lib.hid hbef
          have HAT := Lib.hid hat
          have HCL := Lib.hid (cut_length L j hj)
          have HLL := Lib.hid hLL
          have ONE1 := Lib.hid (ints_one (L.drop (j + 1)))
          have OC := Lib.hid (own_cut own4 j (by omega))
          have RO := Lib.hid (Reads.of_own own4)
          clear isl8 hbef hat hLL hv HGE
          go_wp2_with fail
          go_loop [7, 53] (fun v i => v = .slice (some ⟨g7, 0, none⟩) L.length cp7 ∧ ∃ q : Nat, q ≤ j ∧ i = .int .i64 q) (fun _ i => L.length - (intOf i).toNat)
          case atStart => exact ⟨rfl, 0, Nat.zero_le _, rfl⟩
          case round =>
            obtain ⟨rfl, p, hp, rfl⟩ := hrel
            obtain ⟨b9, o9, e9, _, hc9⟩ := ISL8.out.2 (by omega)
            injection e9 with e9
            injection e9 with e9 e9'
            subst e9 e9'
            have cp : w4.cell? ⟨g7, p, none⟩ = some (.int .i64 (L.getD p 0)) := by have := hc9 p (by omega); simpa using this
            clear hc9
            by_cases hpj : p < j
            · have hne : (L.getD p 0 == ee) = false := by
                rw [beq_eq_false_iff_ne]
                exact HBEF.out p hpj
              generalize L.getD p 0 = xv at *
              go_wp2
              go_round
              case rel => exact ⟨rfl, p + 1, by omega, by go_num⟩
              case measure => simp [intOf]; omega
            · obtain rfl : p = j := by omega
              have hne : (L.getD p 0 == ee) = true := by rw [HAT.out]; simp
              generalize L.getD p 0 = xv at *
              have k0i : (0 : Int) ≤ (p : Int) := by omega
              have k1i : (p : Int) ≤ (cp7 : Int) := by omega
              have k2i : (p : Int) + 1 ≤ (L.length : Int) := by omega
              have k3i : (0 : Int) ≤ (p : Int) + 1 := by omega
              have k7i : (L.length : Int) ≤ (cp7 : Int) := by omega
              have k4 : ((p : Int) + 1).toNat = p + 1 := by omega
              go_wp2_with fail
              have k5 : IntKind.i64.wrap ((p : Int) + 1) = (p : Int) + 1 := IntWalk.i64_in _ (by omega)
              have RS : Hid (Reads w4.drew w4.heap.size 1 (if cp7 = p + 1 then some ⟨g7, 0, none⟩ else some ⟨g7, p + 1, none⟩) (L.length - (p + 1)) ((L.drop (p + 1)).map (Value.int .i64))) := by
                have h := RO.out.cut (k := p + 1) (cap := cp7) (by omega) (by omega)
                have h2 : Reads w4 w4.heap.size 1 (if cp7 = p + 1 then some ⟨g7, 0, none⟩ else some ⟨g7, p + 1, none⟩) (L.length - (p + 1)) ((L.drop (p + 1)).map (Value.int .i64)) := by
                  rw [List.map_drop]
                  simpa [Addr.add_lit] using h
                exact h2.drew
              go_region_held3 (fun _ => True) (trivial)
                (first
                  | (refine step_append_any _ (by rfl) (.tmp 64) (.tmp 68) 26 (by rfl) base 3 i0 _ 1 8 Try.underlying26 hi0 hz0 hz1 hz2 rfl (by decide) _ p _ (by rfl) (OC.out.drew) _ (if cp7 = p + 1 then some ⟨g7, 0, none⟩ else some ⟨g7, p + 1, none⟩) (L.length - (p + 1)) (cp7 - (p + 1)) ((L.drop (p + 1)).map (Value.int .i64)) (by rfl) RS.out ONE1.out ?_ ?_ ?_ ?_; (unfold maxLen; omega); omega; (simp; omega); intro v5 wt ownt gr5 loc5))
              clear RS
              generalize (if cp7 = p + 1 then some (⟨g7, 0, none⟩ : Addr) else some ⟨g7, p + 1, none⟩) = ax
              have hgr : w4.grownBy wt (some g7) := ⟨gr5.os, gr5.tape, gr5.output, gr5.size, gr5.block⟩
              have hLm : (L.map (Value.int .i64)).take p ++ (L.drop (p + 1)).map (Value.int .i64) = L'.map (Value.int .i64) := by rw [HLL.out]; unfold cut; simp
              have hLn : p + (L.length - (p + 1)) = L'.length := by rw [HLL.out, HCL.out]; omega
              rw [hLm, hLn] at ownt
              have bt : Bk wt g n' x' y' := Blk.grown b4 hgr hnu
              have belt := bel4.grown hgr bel4.size (by intro p e; injection e with e; have := bel4.size; omega)
              have hst : tb < wt.heap.size := Nat.lt_of_lt_of_le s4 hgr.size
              clear own4 b4 bel4 t4 gr5 hgr ct0 ct1 s4 hLm hLn k4 k5 OC RO ONE1 HBEF HAT HCL HLL ISL8 loc5 cp hne
              obtain ⟨a7, cap7, hv7, _, isl7, _⟩ := list_of_own ownt
              rw [hv7] at ownt ⊢
              have OWNT := Lib.hid ownt
              have ISL := Lib.hid isl7
              have BT := Lib.hid bt
              have BELT := Lib.hid belt
              have MEM := Lib.hid (sim_mem INV'.out SIM'.out)
              have LEN := Lib.hid (sim_length INV'.out SIM'.out)
              have SL := Lib.hid isl7.1
              clear ownt isl7 bt belt hv7
              go_wp2_with fail
              clear hmm
              go_loopw [74] (fun i wr => RelU n' q L' wt i wr) (fun i _ => L'.length - (intOf i).toNat)
              case atStart => exact ⟨0, 0, _, Nat.zero_le _, rfl, Nat.le_refl _, OMap.made _ _ _, Used.none_ _ _, (Below.refl _ _).alloc (Nat.le_refl _) _⟩
              case round =>
                obtain ⟨j, cnt, M, hj, rfl, hcnt, om, us, belj⟩ := hrel
                by_cases hjl : j < L'.length
                · obtain ⟨b7, o7, e7, g7, hc7⟩ := (ISL.out.below (Nat.le_refl _) belj).2 (by omega)
                  have cj := hc7 j hjl
                  have hmem : L'.getD j 0 ∈ L' := by simp [List.getD, hjl]
                  have hx := MEM.out _ hmem
                  clear hc7 hmem
                  generalize L'.getD j 0 = xx at *
                  obtain ⟨xx0, hxx⟩ := hx
                  have bj : Bk wr g n' x' y' := Blk.below BT.out belj (BT.out.lt)
                  have US := Lib.hid us
                  have OM := Lib.hid om
                  have HXX := Lib.hid hxx
                  clear us om
                  subst e7
                  have xxb : xx ≤ 61 := by omega
                  have HXX2 := Lib.hid hxx
                  by_cases hxn : xx = n'
                  · have hb1 : (xx != n') = false := by rw [hxn]; simp
                    clear hxn hxx
                    go_wp2_with fail
                    refine (now_any g n' x' y' _ bj).mono ?_
                    rintro r w' ⟨rfl, rfl⟩
                    go_wp2_with fail
                    obtain ⟨wo, rfl⟩ : ∃ wo : World, wo = wr := ⟨_, rfl⟩
                    go_loopw [90] (fun i wr => RelC n' q j wt i wr) (fun i _ => q.toNat - (intOf i).toNat)
                    case atStart => exact ⟨0, cnt, M, by omega, rfl, by omega, OM.out, US.out, belj⟩
                    case round =>
                      obtain ⟨d, cnt2, M2, hdq, rfl, hcnt2, om2, us2, bel2⟩ := hrel
                      by_cases hdl : (d : Int) < q
                      · have vb : 0 ≤ (d : Int) + q * (xx % 2) ∧ (d : Int) + q * (xx % 2) < 2 * q := by
                          rcases (by omega : xx % 2 = 0 ∨ xx % 2 = 1) with h | h <;> rw [h] <;> omega
                        have UP := Lib.hid (us2.put xx d xx0 HXX.out (by omega) hdl)
                        have SA : Hid (∀ v, M2 (.int .i64 ((d : Int) + q * (xx % 2))) = some v → v = .int .i64 xx) := fun v hv => us2.same xx0 HXX.out (by omega) hdl q1 hv
                        clear us2
                        go_wp2_with fail
                        refine (class_ok xx d q _ xx0 q1 q4 (by omega) hdl).mono ?_
                        rintro r w' ⟨rfl, rfl⟩
                        generalize (d : Int) + q * (xx % 2) = vv at *
                        obtain ⟨vv0, vv1⟩ := vb
                        have HK : Hid (keyOf Try.prog 3 (.int .i64 vv) = some (.int .i64 vv)) := keyOf_int_mk Try.underlying3 (WalkArith.wf_i64 (by omega))
                        have R : Hid (∀ w5, OMap w5 Try.prog 3 wt.heap.size (cnt2 + 1) (putM M2 (.int .i64 vv) (.int .i64 xx)) → wr.grownBy w5 (some wt.heap.size) → RelC n' q j wt (.int .i64 ((d + 1 : Nat) : Int)) w5) := by
                          intro w5 om5 gr5
                          exact ⟨d + 1, cnt2 + 1, _, by omega, rfl, by omega, om5, UP.out, bel2.grown gr5 bel2.size (by intro p e; injection e with e; omega)⟩
                        have cb : cnt2 < maxLen := by unfold maxLen; omega
                        cases hM : M2 (.int .i64 vv) with
                        | none =>
                          have HM := Lib.hid hM
                          clear hM UP SA
                          go_wp2_with (first | (at_lookup; refine wpList_look_ok _ rfl _ _ 40 rfl 3 3 lawInt2 Try.underlying40 (.int .i64 0) (zeroInt _) wt.heap.size _ _ rfl om2 _ (.int .i64 vv) rfl HK.out ?_; simp only [HM.out, Option.getD_none, Option.isSome_none]) | (at_mapUpdate; refine wpList_put _ rfl _ _ _ 40 rfl 3 3 lawInt2 Try.underlying40 wt.heap.size cnt2 _ rfl om2 cb _ _ (.int .i64 vv) rfl rfl HK.out ?_; intro w5 om5 gr5; have RR := Lib.hid (R.out w5 om5 gr5); clear om5 gr5))
                          exact ⟨by simpa using RR.out, by simp [intOf]; omega⟩
                        | some val =>
                          have hval := SA.out val hM
                          subst hval
                          have HM := Lib.hid hM
                          clear hM UP SA
                          have hxe : (xx != xx) = false := by simp
                          go_wp2_with (first | (at_lookup; refine wpList_look_ok _ rfl _ _ 40 rfl 3 3 lawInt2 Try.underlying40 (.int .i64 0) (zeroInt _) wt.heap.size _ _ rfl om2 _ (.int .i64 vv) rfl HK.out ?_; simp only [HM.out, Option.getD_some, Option.isSome_some]) | (at_mapUpdate; refine wpList_put _ rfl _ _ _ 40 rfl 3 3 lawInt2 Try.underlying40 wt.heap.size cnt2 _ rfl om2 cb _ _ (.int .i64 vv) rfl rfl HK.out ?_; intro w5 om5 gr5; have RR := Lib.hid (R.out w5 om5 gr5); clear om5 gr5))
                          exact ⟨by simpa using RR.out, by simp [intOf]; omega⟩
                      · have R : Hid (RelU n' q L' wt (.int .i64 ((j + 1 : Nat) : Int)) wr) := ⟨j + 1, cnt2, M2, by omega, rfl, by omega, om2, us2, bel2⟩
                        go_wp2_with fail
                        exact ⟨by simpa using R.out, by simp [intOf]; omega⟩
                  · have hb1 : (xx != n') = true := by rw [bne_iff_ne]; exact hxn
                    have hb2 : (xx != n' - 1) = false := by
                      have := HXX2.out
                      have e : xx = n' - 1 := by omega
                      rw [e]; simp
                    clear hxn hxx
                    go_wp2_with fail
                    refine (now_any g n' x' y' _ bj).mono ?_
                    rintro r w' ⟨rfl, rfl⟩
                    go_wp2_with fail
                    refine (now_any g n' x' y' _ bj).mono ?_
                    rintro r w' ⟨rfl, rfl⟩
                    go_wp2_with fail
                    obtain ⟨wo, rfl⟩ : ∃ wo : World, wo = wr := ⟨_, rfl⟩
                    go_loopw [90] (fun i wr => RelC n' q j wt i wr) (fun i _ => q.toNat - (intOf i).toNat)
                    case atStart => exact ⟨0, cnt, M, by omega, rfl, by omega, OM.out, US.out, belj⟩
                    case round =>
                      obtain ⟨d, cnt2, M2, hdq, rfl, hcnt2, om2, us2, bel2⟩ := hrel
                      by_cases hdl : (d : Int) < q
                      · have vb : 0 ≤ (d : Int) + q * (xx % 2) ∧ (d : Int) + q * (xx % 2) < 2 * q := by
                          rcases (by omega : xx % 2 = 0 ∨ xx % 2 = 1) with h | h <;> rw [h] <;> omega
                        have UP := Lib.hid (us2.put xx d xx0 HXX.out (by omega) hdl)
                        have SA : Hid (∀ v, M2 (.int .i64 ((d : Int) + q * (xx % 2))) = some v → v = .int .i64 xx) := fun v hv => us2.same xx0 HXX.out (by omega) hdl q1 hv
                        clear us2
                        go_wp2_with fail
                        refine (class_ok xx d q _ xx0 q1 q4 (by omega) hdl).mono ?_
                        rintro r w' ⟨rfl, rfl⟩
                        generalize (d : Int) + q * (xx % 2) = vv at *
                        obtain ⟨vv0, vv1⟩ := vb
                        have HK : Hid (keyOf Try.prog 3 (.int .i64 vv) = some (.int .i64 vv)) := keyOf_int_mk Try.underlying3 (WalkArith.wf_i64 (by omega))
                        have R : Hid (∀ w5, OMap w5 Try.prog 3 wt.heap.size (cnt2 + 1) (putM M2 (.int .i64 vv) (.int .i64 xx)) → wr.grownBy w5 (some wt.heap.size) → RelC n' q j wt (.int .i64 ((d + 1 : Nat) : Int)) w5) := by
                          intro w5 om5 gr5
                          exact ⟨d + 1, cnt2 + 1, _, by omega, rfl, by omega, om5, UP.out, bel2.grown gr5 bel2.size (by intro p e; injection e with e; omega)⟩
                        have cb : cnt2 < maxLen := by unfold maxLen; omega
                        cases hM : M2 (.int .i64 vv) with
                        | none =>
                          have HM := Lib.hid hM
                          clear hM UP SA
                          go_wp2_with (first | (at_lookup; refine wpList_look_ok _ rfl _ _ 40 rfl 3 3 lawInt2 Try.underlying40 (.int .i64 0) (zeroInt _) wt.heap.size _ _ rfl om2 _ (.int .i64 vv) rfl HK.out ?_; simp only [HM.out, Option.getD_none, Option.isSome_none]) | (at_mapUpdate; refine wpList_put _ rfl _ _ _ 40 rfl 3 3 lawInt2 Try.underlying40 wt.heap.size cnt2 _ rfl om2 cb _ _ (.int .i64 vv) rfl rfl HK.out ?_; intro w5 om5 gr5; have RR := Lib.hid (R.out w5 om5 gr5); clear om5 gr5))
                          exact ⟨by simpa using RR.out, by simp [intOf]; omega⟩
                        | some val =>
                          have hval := SA.out val hM
                          subst hval
                          have HM := Lib.hid hM
                          clear hM UP SA
                          have hxe : (xx != xx) = false := by simp
                          go_wp2_with (first | (at_lookup; refine wpList_look_ok _ rfl _ _ 40 rfl 3 3 lawInt2 Try.underlying40 (.int .i64 0) (zeroInt _) wt.heap.size _ _ rfl om2 _ (.int .i64 vv) rfl HK.out ?_; simp only [HM.out, Option.getD_some, Option.isSome_some]) | (at_mapUpdate; refine wpList_put _ rfl _ _ _ 40 rfl 3 3 lawInt2 Try.underlying40 wt.heap.size cnt2 _ rfl om2 cb _ _ (.int .i64 vv) rfl rfl HK.out ?_; intro w5 om5 gr5; have RR := Lib.hid (R.out w5 om5 gr5); clear om5 gr5))
                          exact ⟨by simpa using RR.out, by simp [intOf]; omega⟩
                      · have R : Hid (RelU n' q L' wt (.int .i64 ((j + 1 : Nat) : Int)) wr) := ⟨j + 1, cnt2, M2, by omega, rfl, by omega, om2, us2, bel2⟩
                        go_wp2_with fail
                        exact ⟨by simpa using R.out, by simp [intOf]; omega⟩
                · have bj : Bk wr g n' x' y' := Blk.below BT.out belj (BT.out.lt)
                  have belf : Below w.heap.size w wr := BELT.out.trans (belj.mono BELT.out.size)
                  have ownf := OWNT.out.kept (only_of_below belj none) (by cases hv : (Value.slice a7 L'.length cap7).ownBlock <;> simp)
                  have R : Hid (Rel len0 w g base (.slice a7 L'.length cap7) (.int .i64 ((k + 1 : Nat) : Int)) wr) := ⟨k + 1, by omega, rfl, by have := belj.size; omega, n', x', y', L', bj, INV'.out, SIM'.out, by omega, ownf, belf⟩
                  have len := LEN.out
                  obtain ⟨an0, an1⟩ := alv_nonneg INV'.out n'
                  obtain ⟨am0, am1⟩ := alv_nonneg INV'.out (n' - 1)
                  clear ownf belf om us belj OWNT ISL BT BELT
                  go_wp2_with (first | (go_at_call 17; refine (now_any g n' x' y' _ bj).mono ?_; rintro r w' ⟨rfl, rfl⟩) | (go_at_call 18; refine (alive_any g n' x' y' _ _ bj (by omega) (by omega)).mono ?_; rintro r w' ⟨rfl, rfl⟩))
                  exact ⟨by simpa using R.out, by simp [intOf]; omega⟩
        case inr.inr.inr.inr.inr.inr =>
          have hk0 : (kk == 0) = false := by rw [beq_eq_false_iff_ne]; exact hk01.1
          have hk1 : (kk == 1) = false := by rw [beq_eq_false_iff_ne]; exact hk01.2
          clear hk01 hcnt hn'
          obtain ⟨wt, rfl⟩ : ∃ wt : World, wt = w4 := ⟨_, rfl⟩
          have ownt := own4
          have bt := b4
          have belt := bel4
          clear own4 b4 bel4 t4
          obtain ⟨a7, cap7, hv7, _, isl7, _⟩ := list_of_own ownt
          rw [hv7] at ownt ⊢
          have OWNT := Lib.hid ownt
          have ISL := Lib.hid isl7
          have BT := Lib.hid bt
          have BELT := Lib.hid belt
          have MEM := Lib.hid (sim_mem INV'.out SIM'.out)
          have LEN := Lib.hid (sim_length INV'.out SIM'.out)
          have SL := Lib.hid isl7.1
          clear ownt isl7 bt belt hv7
          go_wp2_with fail
          clear hmm
          go_loopw [74] (fun i wr => RelU n' q L' wt i wr) (fun i _ => L'.length - (intOf i).toNat)
          case atStart => exact ⟨0, 0, _, Nat.zero_le _, rfl, Nat.le_refl _, OMap.made _ _ _, Used.none_ _ _, (Below.refl _ _).alloc (Nat.le_refl _) _⟩
          case round =>
            obtain ⟨j, cnt, M, hj, rfl, hcnt, om, us, belj⟩ := hrel
            by_cases hjl : j < L'.length
            · obtain ⟨b7, o7, e7, g7, hc7⟩ := (ISL.out.below (Nat.le_refl _) belj).2 (by omega)
              have cj := hc7 j hjl
              have hmem : L'.getD j 0 ∈ L' := by simp [List.getD, hjl]
              have hx := MEM.out _ hmem
              clear hc7 hmem
              generalize L'.getD j 0 = xx at *
              obtain ⟨xx0, hxx⟩ := hx
              have bj : Bk wr g n' x' y' := Blk.below BT.out belj (BT.out.lt)
              have US := Lib.hid us
              have OM := Lib.hid om
              have HXX := Lib.hid hxx
              clear us om
              subst e7
              have xxb : xx ≤ 61 := by omega
              have HXX2 := Lib.hid hxx
              by_cases hxn : xx = n'
              · have hb1 : (xx != n') = false := by rw [hxn]; simp
                clear hxn hxx
                go_wp2_with fail
                refine (now_any g n' x' y' _ bj).mono ?_
                rintro r w' ⟨rfl, rfl⟩
                go_wp2_with fail
                obtain ⟨wo, rfl⟩ : ∃ wo : World, wo = wr := ⟨_, rfl⟩
                go_loopw [90] (fun i wr => RelC n' q j wt i wr) (fun i _ => q.toNat - (intOf i).toNat)
                case atStart => exact ⟨0, cnt, M, by omega, rfl, by omega, OM.out, US.out, belj⟩
                case round =>
                  obtain ⟨d, cnt2, M2, hdq, rfl, hcnt2, om2, us2, bel2⟩ := hrel
                  by_cases hdl : (d : Int) < q
                  · have vb : 0 ≤ (d : Int) + q * (xx % 2) ∧ (d : Int) + q * (xx % 2) < 2 * q := by
                      rcases (by omega : xx % 2 = 0 ∨ xx % 2 = 1) with h | h <;> rw [h] <;> omega
                    have UP := Lib.hid (us2.put xx d xx0 HXX.out (by omega) hdl)
                    have SA : Hid (∀ v, M2 (.int .i64 ((d : Int) + q * (xx % 2))) = some v → v = .int .i64 xx) := fun v hv => us2.same xx0 HXX.out (by omega) hdl q1 hv
                    clear us2
                    go_wp2_with fail
                    refine (class_ok xx d q _ xx0 q1 q4 (by omega) hdl).mono ?_
                    rintro r w' ⟨rfl, rfl⟩
                    generalize (d : Int) + q * (xx % 2) = vv at *
                    obtain ⟨vv0, vv1⟩ := vb
                    have HK : Hid (keyOf Try.prog 3 (.int .i64 vv) = some (.int .i64 vv)) := keyOf_int_mk Try.underlying3 (WalkArith.wf_i64 (by omega))
                    have R : Hid (∀ w5, OMap w5 Try.prog 3 wt.heap.size (cnt2 + 1) (putM M2 (.int .i64 vv) (.int .i64 xx)) → wr.grownBy w5 (some wt.heap.size) → RelC n' q j wt (.int .i64 ((d + 1 : Nat) : Int)) w5) := by
                      intro w5 om5 gr5
                      exact ⟨d + 1, cnt2 + 1, _, by omega, rfl, by omega, om5, UP.out, bel2.grown gr5 bel2.size (by intro p e; injection e with e; omega)⟩
                    have cb : cnt2 < maxLen := by unfold maxLen; omega
                    cases hM : M2 (.int .i64 vv) with
                    | none =>
                      have HM := Lib.hid hM
                      clear hM UP SA
                      go_wp2_with (first | (at_lookup; refine wpList_look_ok _ rfl _ _ 40 rfl 3 3 lawInt2 Try.underlying40 (.int .i64 0) (zeroInt _) wt.heap.size _ _ rfl om2 _ (.int .i64 vv) rfl HK.out ?_; simp only [HM.out, Option.getD_none, Option.isSome_none]) | (at_mapUpdate; refine wpList_put _ rfl _ _ _ 40 rfl 3 3 lawInt2 Try.underlying40 wt.heap.size cnt2 _ rfl om2 cb _ _ (.int .i64 vv) rfl rfl HK.out ?_; intro w5 om5 gr5; have RR := Lib.hid (R.out w5 om5 gr5); clear om5 gr5))
                      exact ⟨by simpa using RR.out, by simp [intOf]; omega⟩
                    | some val =>
                      have hval := SA.out val hM
                      subst hval
                      have HM := Lib.hid hM
                      clear hM UP SA
                      have hxe : (xx != xx) = false := by simp
                      go_wp2_with (first | (at_lookup; refine wpList_look_ok _ rfl _ _ 40 rfl 3 3 lawInt2 Try.underlying40 (.int .i64 0) (zeroInt _) wt.heap.size _ _ rfl om2 _ (.int .i64 vv) rfl HK.out ?_; simp only [HM.out, Option.getD_some, Option.isSome_some]) | (at_mapUpdate; refine wpList_put _ rfl _ _ _ 40 rfl 3 3 lawInt2 Try.underlying40 wt.heap.size cnt2 _ rfl om2 cb _ _ (.int .i64 vv) rfl rfl HK.out ?_; intro w5 om5 gr5; have RR := Lib.hid (R.out w5 om5 gr5); clear om5 gr5))
                      exact ⟨by simpa using RR.out, by simp [intOf]; omega⟩
                  · have R : Hid (RelU n' q L' wt (.int .i64 ((j + 1 : Nat) : Int)) wr) := ⟨j + 1, cnt2, M2, by omega, rfl, by omega, om2, us2, bel2⟩
                    go_wp2_with fail
                    exact ⟨by simpa using R.out, by simp [intOf]; omega⟩
              · have hb1 : (xx != n') = true := by rw [bne_iff_ne]; exact hxn
                have hb2 : (xx != n' - 1) = false := by
                  have := HXX2.out
                  have e : xx = n' - 1 := by omega
                  rw [e]; simp
                clear hxn hxx
                go_wp2_with fail
                refine (now_any g n' x' y' _ bj).mono ?_
                rintro r w' ⟨rfl, rfl⟩
                go_wp2_with fail
                refine (now_any g n' x' y' _ bj).mono ?_
                rintro r w' ⟨rfl, rfl⟩
                go_wp2_with fail
                obtain ⟨wo, rfl⟩ : ∃ wo : World, wo = wr := ⟨_, rfl⟩
                go_loopw [90] (fun i wr => RelC n' q j wt i wr) (fun i _ => q.toNat - (intOf i).toNat)
                case atStart => exact ⟨0, cnt, M, by omega, rfl, by omega, OM.out, US.out, belj⟩
                case round =>
                  obtain ⟨d, cnt2, M2, hdq, rfl, hcnt2, om2, us2, bel2⟩ := hrel
                  by_cases hdl : (d : Int) < q
                  · have vb : 0 ≤ (d : Int) + q * (xx % 2) ∧ (d : Int) + q * (xx % 2) < 2 * q := by
                      rcases (by omega : xx % 2 = 0 ∨ xx % 2 = 1) with h | h <;> rw [h] <;> omega
                    have UP := Lib.hid (us2.put xx d xx0 HXX.out (by omega) hdl)
                    have SA : Hid (∀ v, M2 (.int .i64 ((d : Int) + q * (xx % 2))) = some v → v = .int .i64 xx) := fun v hv => us2.same xx0 HXX.out (by omega) hdl q1 hv
                    clear us2
                    go_wp2_with fail
                    refine (class_ok xx d q _ xx0 q1 q4 (by omega) hdl).mono ?_
                    rintro r w' ⟨rfl, rfl⟩
                    generalize (d : Int) + q * (xx % 2) = vv at *
                    obtain ⟨vv0, vv1⟩ := vb
                    have HK : Hid (keyOf Try.prog 3 (.int .i64 vv) = some (.int .i64 vv)) := keyOf_int_mk Try.underlying3 (WalkArith.wf_i64 (by omega))
                    have R : Hid (∀ w5, OMap w5 Try.prog 3 wt.heap.size (cnt2 + 1) (putM M2 (.int .i64 vv) (.int .i64 xx)) → wr.grownBy w5 (some wt.heap.size) → RelC n' q j wt (.int .i64 ((d + 1 : Nat) : Int)) w5) := by
                      intro w5 om5 gr5
                      exact ⟨d + 1, cnt2 + 1, _, by omega, rfl, by omega, om5, UP.out, bel2.grown gr5 bel2.size (by intro p e; injection e with e; omega)⟩
                    have cb : cnt2 < maxLen := by unfold maxLen; omega
                    cases hM : M2 (.int .i64 vv) with
                    | none =>
                      have HM := Lib.hid hM
                      clear hM UP SA
                      go_wp2_with (first | (at_lookup; refine wpList_look_ok _ rfl _ _ 40 rfl 3 3 lawInt2 Try.underlying40 (.int .i64 0) (zeroInt _) wt.heap.size _ _ rfl om2 _ (.int .i64 vv) rfl HK.out ?_; simp only [HM.out, Option.getD_none, Option.isSome_none]) | (at_mapUpdate; refine wpList_put _ rfl _ _ _ 40 rfl 3 3 lawInt2 Try.underlying40 wt.heap.size cnt2 _ rfl om2 cb _ _ (.int .i64 vv) rfl rfl HK.out ?_; intro w5 om5 gr5; have RR := Lib.hid (R.out w5 om5 gr5); clear om5 gr5))
                      exact ⟨by simpa using RR.out, by simp [intOf]; omega⟩
                    | some val =>
                      have hval := SA.out val hM
                      subst hval
                      have HM := Lib.hid hM
                      clear hM UP SA
                      have hxe : (xx != xx) = false := by simp
                      go_wp2_with (first | (at_lookup; refine wpList_look_ok _ rfl _ _ 40 rfl 3 3 lawInt2 Try.underlying40 (.int .i64 0) (zeroInt _) wt.heap.size _ _ rfl om2 _ (.int .i64 vv) rfl HK.out ?_; simp only [HM.out, Option.getD_some, Option.isSome_some]) | (at_mapUpdate; refine wpList_put _ rfl _ _ _ 40 rfl 3 3 lawInt2 Try.underlying40 wt.heap.size cnt2 _ rfl om2 cb _ _ (.int .i64 vv) rfl rfl HK.out ?_; intro w5 om5 gr5; have RR := Lib.hid (R.out w5 om5 gr5); clear om5 gr5))
                      exact ⟨by simpa using RR.out, by simp [intOf]; omega⟩
                  · have R : Hid (RelU n' q L' wt (.int .i64 ((j + 1 : Nat) : Int)) wr) := ⟨j + 1, cnt2, M2, by omega, rfl, by omega, om2, us2, bel2⟩
                    go_wp2_with fail
                    exact ⟨by simpa using R.out, by simp [intOf]; omega⟩
            · have bj : Bk wr g n' x' y' := Blk.below BT.out belj (BT.out.lt)
              have belf : Below w.heap.size w wr := BELT.out.trans (belj.mono BELT.out.size)
              have ownf := OWNT.out.kept (only_of_below belj none) (by cases hv : (Value.slice a7 L'.length cap7).ownBlock <;> simp)
              have R : Hid (Rel len0 w g base (.slice a7 L'.length cap7) (.int .i64 ((k + 1 : Nat) : Int)) wr) := ⟨k + 1, by omega, rfl, by have := belj.size; omega, n', x', y', L', bj, INV'.out, SIM'.out, by omega, ownf, belf⟩
              have len := LEN.out
              obtain ⟨an0, an1⟩ := alv_nonneg INV'.out n'
              obtain ⟨am0, am1⟩ := alv_nonneg INV'.out (n' - 1)
              clear ownf belf om us belj OWNT ISL BT BELT
              go_wp2_with (first | (go_at_call 17; refine (now_any g n' x' y' _ bj).mono ?_; rintro r w' ⟨rfl, rfl⟩) | (go_at_call 18; refine (alive_any g n' x' y' _ _ bj (by omega) (by omega)).mono ?_; rintro r w' ⟨rfl, rfl⟩))
              exact ⟨by simpa using R.out, by simp [intOf]; omega⟩
      · have hsame : n' = n ∧ L' = L := by
          rcases cs with ⟨-, -, h1, h2, h3⟩ | ⟨-, -, h1, h2, h3⟩ | ⟨-, -, h1, h2, h3⟩ | ⟨-, -, h1, h2, h3⟩ | ⟨-, -, h1, h2⟩ | ⟨-, -, h1, h2, h3⟩ | ⟨-, -, h1, h2, h3⟩
          all_goals first | exact ⟨h2, h3⟩ | exact absurd h1 hc0
        clear cs
        obtain ⟨rfl, rfl⟩ := hsame
        have hcn : (c != 0) = true := by rw [bne_iff_ne]; exact hc0
        have R : Hid (Rel len0 w g base u7 (.int .i64 ((k + 1 : Nat) : Int)) w4) := ⟨k + 1, by omega, rfl, by omega, n', x', y', L', b4, INV'.out, SIM'.out, by omega, own4, bel4⟩
        clear hc0 own4 b4 bel4
        go_wp2_with fail
        exact ⟨by simpa using R.out, by simp [intOf]; omega⟩
    · go_wp2
      go_ret
      exact ⟨rfl, bel⟩
end Go.Proofs.Ytkdgfjjljokkhaa.epochTwoW
