/- The walk of the law LocalAgrees: it returns true. -/
import Derived.Test.YtjhbjifhponciaaLAgrJoin
namespace Go.Proofs.Ytjhbjifhponciaa.localAgreesW
open Go.RowKit Go.Maps
set_option linter.unusedVariables false

def Done (w : World) (e : Ending) (w' : World) : Prop := e = .returned (.bool true) ∧ Below w.heap.size w w'
def RelSz (xs : List Pt) (w3 : World) (i : Value) (wr : World) : Prop :=
  ∃ k : Nat, k ≤ xs.length ∧ i = .int .i64 k ∧ (∀ x ∈ xs.take k, x.deps.length ≤ 100 ∧ x.ranks.length ≤ 100) ∧ Below w3.heap.size w3 wr
/-- After i nodes: the dependencies of the first i parts in order. -/
def RelAll (ps : List Pt) (w7 : World) (v i : Value) (wr : World) : Prop :=
  ∃ k : Nat, k ≤ ps.length ∧ i = .int .i64 k ∧ wr.ownsRow w7.heap.size 36 3 v (joinD (ps.take k)).length ((joinD (ps.take k)).flatMap cD) ∧ Below w7.heap.size w7 wr
def RelAllI (ps xs : List Pt) (k : Nat) (w7 : World) (v i : Value) (wr : World) : Prop :=
  ∃ j : Nat, j ≤ xs.length ∧ i = .int .i64 j ∧ wr.ownsRow w7.heap.size 36 3 v (joinD (ps.take k) ++ innD xs k j).length ((joinD (ps.take k) ++ innD xs k j).flatMap cD) ∧ Below w7.heap.size w7 wr

set_option maxRecDepth 100000 in
set_option maxHeartbeats 8000000 in
theorem walk (An Ac : Option Addr) (cn cc : Nat) (p : Pl) (Al : Option Addr) (cl : Nat) (xs : List Pt) (w : World)
    (hp : IsPlan w An Ac p) (hwf : WfP p) (hx : IsParts w Al xs.length xs) (hmx : xs.length ≤ maxLen) :
    Calls Try.prog 6 #[.agg #[.slice An p.ns.length cn, .slice Ac p.cs.length cc], .slice Al xs.length cl] w (Done w) := by
  obtain ⟨ns, cs⟩ := p
  simp only
  have HW := Lib.hid hwf
  have HND := Lib.hid hx.nodup
  unfold maxLen at hmx
  obtain ⟨w1, hw1⟩ : ∃ w1 : World, w.alloc (.cells #[.slice An ns.length cn, .slice Ac cs.length cc] 25) = w1 := ⟨_, rfl⟩
  have s0 : w1.cell? ⟨w.heap.size, 0, none⟩ = some (.slice An ns.length cn) := by rw [← hw1]; simp [go_sem]
  have s1 : w1.cell? ⟨w.heap.size, 1, none⟩ = some (.slice Ac cs.length cc) := by rw [← hw1]; simp [go_sem]
  have sz1 : w.heap.size < w1.heap.size := by rw [← hw1]; simp
  have BW0 : Below w.heap.size w w1 := by rw [← hw1]; exact (Below.refl _ _).alloc (Nat.le_refl _) _
  have BW := Lib.hid BW0
  have H1 := Lib.hid (hp.below (Nat.le_refl _) BW0)
  have X1 := Lib.hid (hx.below (Nat.le_refl _) BW0)
  have HW1 := Lib.hid hw1
  have KC : Hid (∀ w', Below w1.heap.size w1 w' → w'.cell? ⟨w.heap.size, 0, none⟩ = some (.slice An ns.length cn) ∧ w'.cell? ⟨w.heap.size, 1, none⟩ = some (.slice Ac cs.length cc) ∧ w.heap.size < w'.heap.size ∧ Below w.heap.size w w') :=
    fun w' hb => ⟨(hb.cell (by exact sz1)).trans s0, (hb.cell (by exact sz1)).trans s1, by have := hb.size; omega, BW0.trans (hb.mono (by omega))⟩
  clear hp hx hw1 hwf BW0
  obtain ⟨i0, hi0, hz0, hz1, hz2⟩ := info_parts infoDep
  go_enter Try.func6, Try.ntmps6
  go_wp2_with fail
  rw [HW1.out]
  refine (awake_any _).mono ?_
  rintro e w2 ⟨rfl, bel2⟩
  have B2 := Lib.hid bel2
  clear bel2 s0 s1
  obtain ⟨u0, u1, sz2, bw2⟩ := KC.out w2 B2.out
  clear bw2
  obtain ⟨w3, hw3⟩ : ∃ w3 : World, w2.alloc (.cells #[.slice An ns.length cn, .slice Ac cs.length cc] 25) = w3 := ⟨_, rfl⟩
  have B3 : Hid (Below w1.heap.size w1 w3) := by rw [Hid, ← hw3]; exact B2.out.alloc B2.out.size _
  have HW3 := Lib.hid hw3
  clear hw3
  cases hg : greatB ns.length cs.length 0 with
  | true =>
    have HG := Lib.hid hg
    clear hg
    go_wp2_with fail
    refine (great_any An Ac none ns.length cs.length 0 cn cc 0 _ _ HG.out).mono ?_
    rintro e w4 ⟨rfl, rfl⟩
    rw [HW3.out]
    obtain ⟨_, _, _, bw3⟩ := KC.out w3 B3.out
    have BF := Lib.hid bw3
    clear bw3
    go_wp2_with fail
    go_ret
    exact ⟨rfl, BF.out⟩
  | false =>
    have HG := Lib.hid hg
    have hgb : ns.length ≤ 20 ∧ cs.length ≤ 40 := by simp [greatB] at hg; omega
    obtain ⟨g1, g2⟩ := hgb
    clear hg
    go_wp2_with fail
    refine (great_any An Ac none ns.length cs.length 0 cn cc 0 _ _ HG.out).mono ?_
    rintro e w4 ⟨rfl, rfl⟩
    rw [HW3.out]
    clear HW3 u0 u1
    obtain ⟨u0, u1, sz3, bw3⟩ := KC.out w3 B3.out
    have BF3 := Lib.hid bw3
    clear bw3
    by_cases hx20 : 20 < xs.length
    · have q1 : decide (20 < (xs.length : Int)) = true := decide_eq_true (by omega)
      go_wp2_with fail
      go_ret
      exact ⟨rfl, BF3.out⟩
    have q1 : decide (20 < (xs.length : Int)) = false := decide_eq_false (by omega)
    have X3 := Lib.hid (X1.out.below (Nat.le_refl _) B3.out)
    have H3 := Lib.hid (H1.out.below (Nat.le_refl _) B3.out)
    have hx20' : xs.length ≤ 20 := by omega
    clear hx20
    go_wp2_with fail
    clear q1
    go_loopw [28] (fun i wr => RelSz xs w3 i wr) (fun i _ => xs.length - (RowKit.intOf i).toNat)
    case atStart => exact ⟨0, Nat.zero_le _, rfl, by simp, Below.refl _ _⟩
    case round =>
      clear u0 u1
      obtain ⟨k, hk, rfl, hall, bel⟩ := hrel
      have bs := bel.size
      have HA := Lib.hid hall
      clear hall
      have B4 := Lib.hid (B3.out.trans (bel.mono B3.out.size))
      obtain ⟨u0, u1, sz4, bw4⟩ := KC.out wr B4.out
      have BF4 := Lib.hid bw4
      clear bw4
      by_cases hkr : k < xs.length
      · obtain ⟨bb, off, ad, cd, m, ha, hbb, hmem, c0, c1, c2, rc, im⟩ := (X3.out.below (Nat.le_refl _) bel).at_ k hkr
        have HS : Hid ((xs.getD k pt0).deps.length ≤ 100 ∧ (xs.getD k pt0).ranks.length ≤ 100 → ∀ x ∈ xs.take (k + 1), x.deps.length ≤ 100 ∧ x.ranks.length ≤ 100) := fun h => mem_take_snoc (d := pt0) (P := fun x : Pt => x.deps.length ≤ 100 ∧ x.ranks.length ≤ 100) hkr HA.out h
        generalize xs.getD k pt0 = x at *
        generalize x.deps.length = xd at *
        generalize x.node = xn at *
        generalize x.ranks = E at *
        subst ha
        clear hmem rc
        have hml := fun ty => (im.below ((Below.refl wr.heap.size wr).alloc (Nat.le_refl _) (.cells #[.int .i64 xn, .slice ad xd cd, .map m] 41)) (Nat.le_refl _)).len (t := 39) Try.underlying39 ty
        have BA : Hid (Below w3.heap.size w3 (wr.alloc (.cells #[.int .i64 xn, .slice ad xd cd, .map m] 41))) := bel.alloc bs _
        have BF : Hid (Below w.heap.size w (wr.alloc (.cells #[.int .i64 xn, .slice ad xd cd, .map m] 41))) := BF4.out.alloc BF4.out.size _
        clear bel im
        by_cases hd : 100 < xd
        · have q1 : decide (100 < (xd : Int)) = true := decide_eq_true (by omega)
          clear HS
          go_wp2_with fail
          go_ret
          exact ⟨rfl, BF.out⟩
        · have q1 : decide (100 < (xd : Int)) = false := decide_eq_false (by omega)
          by_cases hr : 100 < E.length
          · have q2 : decide (100 < (E.length : Int)) = true := decide_eq_true (by omega)
            clear HS
            go_wp2_with fail
            go_ret
            exact ⟨rfl, BF.out⟩
          · have q2 : decide (100 < (E.length : Int)) = false := decide_eq_false (by omega)
            have R : Hid (RelSz xs w3 (.int .i64 ((k + 1 : Nat) : Int)) (wr.alloc (.cells #[.int .i64 xn, .slice ad xd cd, .map m] 41))) := ⟨k + 1, by omega, rfl, HS.out ⟨by omega, by omega⟩, BA.out⟩
            clear HS hd hr
            go_wp2_with fail
            exact ⟨by simpa using R.out, by simp [RowKit.intOf]; omega⟩
      · obtain rfl : k = xs.length := by omega
        have HSZ : Hid (∀ x ∈ xs, x.deps.length ≤ 100 ∧ x.ranks.length ≤ 100) := by have := HA.out; rw [List.take_length] at this; exact this
        have HSM : Hid (smallMaps xs) := fun x hx => by have := (HSZ.out x hx).2; omega
        have HJD : Hid ((joinD (arrL ns.length xs)).length ≤ 2000) := by have := joinD_small (n := ns.length) (xs := xs) fun x hx => (HSZ.out x hx).1; rw [Hid]; omega
        have X4 := Lib.hid (X3.out.below (Nat.le_refl _) bel)
        have H4 := Lib.hid (H3.out.below (Nat.le_refl _) bel)
        obtain ⟨w4, rfl⟩ : ∃ w4 : World, w4 = wr := ⟨_, rfl⟩
        clear HA bel bs
        go_wp2_with fail
        refine (agree22_any ⟨ns, cs⟩ An Ac Al cn cc cl xs _ (by simp only; omega) (by simp only; omega) HW.out (by omega) HSM.out HND.out H4.out X4.out).mono ?_
        rintro e w5 ⟨rfl, bel5⟩
        have B5 := Lib.hid (B4.out.trans (bel5.mono B4.out.size))
        have X5 := Lib.hid (X4.out.below (Nat.le_refl _) bel5)
        have H5 := Lib.hid (H4.out.below (Nat.le_refl _) bel5)
        clear bel5 u0 u1
        obtain ⟨u0, u1, sz5, bw5⟩ := KC.out w5 B5.out
        clear bw5
        go_wp2_with fail
        refine (join_any ⟨ns, cs⟩ An Ac Al cn cc cl xs _ (by simp only; omega) (by simp only; omega) HW.out (by omega) HSM.out (by have := HJD.out; simp only; omega) H5.out X5.out).mono ?_
        rintro e w6 ⟨bel6, hcase⟩
        have B6 := Lib.hid (B5.out.trans (bel6.mono B5.out.size))
        have X6 := Lib.hid (X5.out.below (Nat.le_refl _) bel6)
        have H6 := Lib.hid (H5.out.below (Nat.le_refl _) bel6)
        clear bel6 u0 u1
        obtain ⟨u0, u1, sz6, bw6⟩ := KC.out w6 B6.out
        clear bw6
        rcases hcase with ⟨hne, rfl⟩ | ⟨he, v, g, rfl, own, hg5, rb⟩
        · have hne' : (agreeErr ⟨ns, cs⟩ xs != 0) = true := by simpa using hne
          clear hne
          go_wp2_with fail
          refine (agree_any ⟨ns, cs⟩ An Ac Al cn cc cl xs _ (by simp only; omega) (by simp only; omega) HW.out (by omega) HSM.out H6.out X6.out).mono ?_
          rintro e w7 ⟨rfl, bel7⟩
          have B7 := Lib.hid (B6.out.trans (bel7.mono B6.out.size))
          clear bel7 u0 u1
          obtain ⟨_, _, _, bw7⟩ := KC.out w7 B7.out
          have BF := Lib.hid bw7
          clear bw7
          generalize agreeErr ⟨ns, cs⟩ xs = er at *
          have q3 : (er != er) = false := by simp
          go_wp2_with fail
          go_ret
          exact ⟨rfl, BF.out⟩
        · have HE := Lib.hid he
          have OWN := Lib.hid own
          have RB := Lib.hid rb
          rw [he]
          clear he own rb
          go_wp2_with fail
          refine (agree_any ⟨ns, cs⟩ An Ac Al cn cc cl xs _ (by simp only; omega) (by simp only; omega) HW.out (by omega) HSM.out H6.out X6.out).mono ?_
          rintro e w7 ⟨rfl, bel7⟩
          rw [HE.out]
          have B7 := Lib.hid (B6.out.trans (bel7.mono B6.out.size))
          have X7 := Lib.hid (X6.out.below (Nat.le_refl _) bel7)
          have RB7 := Lib.hid (RB.out.below bel7 RB.out.lt)
          have OWN7 : Hid (w7.ownsRow w5.heap.size 36 3 v (joinD (arrL ns.length xs)).length ((joinD (arrL ns.length xs)).flatMap cD)) := OWN.out.kept (only_of_below bel7 none) (by exact Classical.em _)
          clear bel7 u0 u1
          obtain ⟨u0, u1, sz7, bw7⟩ := KC.out w7 B7.out
          have BF7 := Lib.hid bw7
          clear bw7
          have qm : (((2 * cs.length : Nat) : Int) != 2 * (cs.length : Int)) = false := by simp
          have AJ : Hid (arrErr ns xs = 0) := (agr_ok HE.out).2.1
          have hal : (arrL ns.length xs).length = ns.length := by simp [arrL]
          have RK : Hid (∀ x ∈ xs, ∀ c r, lookE x.ranks c = some r → joinRk (arrL ns.length xs) c = r ∧ 0 ≤ c ∧ c < 2 * cs.length) := fun x hx c r hl => ⟨join_rank HE.out HND.out hx hl, join_key HE.out HND.out hx hl⟩
          have ID : Hid (∀ i, i < ns.length → innD xs i xs.length = ((arrL ns.length xs).getD i pt0).deps) := fun i hi => by rw [arrL_get hi]; exact innD_all AJ.out hi
          have DLI : Hid (∀ i j, (innD xs i j).length ≤ 2000) := fun i j => by have := innD_len i j (fun x hx => (HSZ.out x hx).1); omega
          have hal' := Lib.hid hal
          generalize arrL ns.length xs = ps at *
          have HJ2 := HJD.out
          clear hal RB OWN AJ X6 X5 X4 X3 HE
          go_wp2_with fail
          clear qm
          go_loopw [11, 83] (fun v i wr => RelAll ps w7 v i wr) (fun _ i _ => ns.length - (RowKit.intOf i).toNat)
          case atStart => exact ⟨0, Nat.zero_le _, rfl, World.ownsRow_nil _ _ _ _, Below.refl _ _⟩
          case round =>
            clear u0 u1
            obtain ⟨k, hk, rfl, own, bel⟩ := hrel
            have bs := bel.size
            have hlp := hal'.out
            by_cases hkr : k < ns.length
            · have DS := Lib.hid (joinD_snoc ps k (by omega))
              have DL := Lib.hid (joinD_le ps k)
              have IDK := Lib.hid (ID.out k hkr)
              have ST : Hid (RelAllI ps xs k w7 u11 (.int .i64 0) wr) := ⟨0, Nat.zero_le _, rfl, by simpa [innD] using own, bel⟩
              clear own bel bs
              go_wp2_with fail
              go_loopw [11, 88] (fun v i wr => RelAllI ps xs k w7 v i wr) (fun _ i _ => xs.length - (RowKit.intOf i).toNat)
              case atStart => exact ST.out
              case round =>
                clear ST
                obtain ⟨j, hj, rfl, own, bel⟩ := hrel
                have bs := bel.size
                have dl1 := DLI.out k j
                have dl2 := DL.out
                by_cases hjr : j < xs.length
                · obtain ⟨bb, off, ad, cd, m, ha, hbb, hmem, c0, c1, c2, rc, im⟩ := (X7.out.below (Nat.le_refl _) bel).at_ j hjr
                  have hxb := (HSZ.out _ hmem).1
                  have IY := Lib.hid (innD_yes xs k j hjr)
                  have IN := Lib.hid (innD_no xs k j hjr)
                  have RKX := Lib.hid (RK.out _ hmem)
                  generalize xs.getD j pt0 = x at *
                  generalize hxd : x.deps = xd at *
                  generalize hxr : x.ranks = E at *
                  generalize x.node = xn at *
                  subst ha
                  clear hmem hxd hxr
                  cases hq : xn == (k : Int) with
                  | false =>
                    have q1 : (xn != (k : Int)) = true := by simp only [bne, hq]; rfl
                    have R : Hid (RelAllI ps xs k w7 u11 (.int .i64 ((j + 1 : Nat) : Int)) (wr.alloc (.cells #[.int .i64 xn, .slice ad xd.length cd, .map m] 41))) :=
                      ⟨j + 1, by omega, rfl, by rw [IN.out (by simpa using hq)]; exact own.alloc _, bel.alloc bs _⟩
                    clear own bel rc im IY IN RKX hq
                    go_wp2_with fail
                    exact ⟨by simpa using R.out, by simp [RowKit.intOf]; omega⟩
                  | true =>
                    have q1 : (xn != (k : Int)) = false := by simp only [bne, hq]; rfl
                    have IY2 := Lib.hid (IY.out (by simpa using hq))
                    have OG : Hid (∀ g, u11.ownBlock = some g → w7.heap.size ≤ g) := fun g e => (own.lt g e).1
                    have OL : Hid (∀ g, u11.ownBlock = some g → g < wr.heap.size) := fun g e => (own.lt g e).2
                    have RD : Hid (Reads (wr.alloc (.cells #[.int .i64 xn, .slice ad xd.length cd, .map m] 41)) wr.heap.size 3 ad xd.length (xd.flatMap cD)) := (reads_of_rec cD_len3 rc).alloc (Nat.le_refl _) _
                    have IMM := Lib.hid im
                    clear rc im IY IN hq
                    generalize hal2 : joinD (ps.take k) ++ innD xs k j = al at *
                    have hll : al.length ≤ 4000 := by rw [← hal2, List.length_append]; omega
                    have HAL := Lib.hid hal2
                    clear hal2
                    go_wp2_with (first | (at_builtin; refine wpList_append_any _ rfl (.tmp 96) (.tmp 98) 26 rfl w7.heap.size 36 i0 _ 3 24 Try.underlying26 hi0 hz0 hz1 hz2 rfl (by decide) _ _ _ rfl (own.alloc _) wr.heap.size ad xd.length cd (xd.flatMap cD) rfl RD.out (cD_oneJ xd) ?c3 ?c4 ?c5 ?_))
                    case c3 => unfold maxLen; omega
                    case c4 => omega
                    try (case c5 => simp; omega)
                    intro v5 wz own5 gr5 hvb
                    have cc0 : (wr.alloc (.cells #[.int .i64 xn, .slice ad xd.length cd, .map m] 41)).cell? ⟨wr.heap.size, 2, none⟩ = some (.map m) := by simp [go_sem]
                    have cc5 : wz.cell? ⟨wr.heap.size, 2, none⟩ = some (.map m) := by
                      rw [gr5.cell_far ⟨wr.heap.size, 2, none⟩ (by simp) (fun e => by have := OL.out _ e.symm; simp at this)]; exact cc0
                    have bel5 : Hid (Below w7.heap.size w7 wz) := (bel.alloc bs _).grown gr5 (by simp; omega) OG.out
                    have OG5 : Hid (∀ g, v5.ownBlock = some g → w7.heap.size ≤ g ∧ g < wz.heap.size) := fun g e => own5.lt g e
                    have OWN5 : Hid (wz.ownsRow w7.heap.size 36 3 v5 (joinD (ps.take k) ++ innD xs k (j + 1)).length ((joinD (ps.take k) ++ innD xs k (j + 1)).flatMap cD)) := by
                      rw [Hid, IY2.out, ← List.append_assoc, HAL.out, List.length_append, List.flatMap_append]; exact own5
                    have gs5 := gr5.size
                    rcases IMM.out with ⟨rfl, hE⟩ | ⟨b, rfl, hmb⟩
                    · have hrg := run_range_nilMap (P := Try.prog) wz 39 3 3 Try.underlying39
                      have hnx : ∀ ty, (Instr.next (.pointer (some ⟨wz.heap.size, 0, none⟩)) false ty).run Try.prog (wz.alloc (.mapIter none 0 #[] 0)) = _ := fun ty => run_next_nilMap wz ty 0 0 #[]
                      have R : Hid (RelAllI ps xs k w7 v5 (.int .i64 ((j + 1 : Nat) : Int)) (wz.alloc (.mapIter none 0 #[] 0))) := ⟨j + 1, by omega, rfl, OWN5.out.alloc _, bel5.out.alloc bel5.out.size _⟩
                      clear own own5 gr5 bel IMM hE cc0
                      go_wp2
                      refine wp_loop_rounds 1 ?_
                      rw [rounds_succ]
                      go_wp2_with fail
                      exact ⟨by simpa using R.out, by simp [RowKit.intOf]; omega⟩
                    · have NBO : Hid (some b ≠ u11.ownBlock) := hmb.ne_own own
                      have hm5 : IM wz b E := (hmb.alloc _).kept gr5 NBO.out
                      have hbl := hm5.lt
                      obtain ⟨HT, D, hown, hents⟩ := hm5
                      have HEN := Lib.hid hents
                      clear own own5 gr5 bel IMM hmb hents cc0
                      go_wp2_with (first
                        | (at_range; refine wpList_range_own _ rfl _ 39 rfl 3 3 (int_keyed Try.underlying3) Try.underlying39 _ b _ _ rfl hown ?_; intro wy hrg0 hg0 hs0)
                        | go_in)
                      go_frame
                      go_loopw [15] (fun _ wx => ∃ (left : Lit → Bool) (cnt : Nat), wx.ranges Try.prog 3 (plainElem Try.prog 3) b wz.heap.size E.length D left cnt ∧ wx.ownsRow w7.heap.size 36 3 v5 (joinD (ps.take k) ++ innD xs k (j + 1)).length ((joinD (ps.take k) ++ innD xs k (j + 1)).flatMap cD) ∧ Below w7.heap.size w7 wx)
                        (fun _ wx => wx.rangeLeft b wz.heap.size)
                      case atStart => exact ⟨_, _, hrg0, OWN5.out.kept hg0 (Classical.em _), bel5.out.grown hg0 bel5.out.size (by simp)⟩
                      case round =>
                        obtain ⟨left, cnt, hrg, ownx, belx⟩ := hrel
                        have bsx := belx.size
                        have OWNX := Lib.hid ownx
                        have BX := Lib.hid belx
                        have bsz := bel5.out.size
                        clear hown hrg0 hg0 hs0 ownx belx cc5
                        go_wp2_with (first
                          | (at_next; refine wpList_next_ranges_ii _ rfl _ rfl 3 3 .i64 .i64 (int_keyed Try.underlying3) Try.underlying3 Try.underlying3 b wz.heap.size E.length _ _ _ rfl hrg ?_ ?_)
                          | go_in)
                        · intro _ hl0
                          have R : Hid (RelAllI ps xs k w7 v5 (.int .i64 ((j + 1 : Nat) : Int)) wr) := ⟨j + 1, by omega, rfl, OWNX.out, BX.out⟩
                          clear hrg hl0
                          go_wp2_with fail
                          exact ⟨by simpa using R.out, by simp [RowKit.intOf]; omega⟩
                        · intro c r wu cnt1 hwx hwc hlx hat hrg1 hlt hg1 hs1 hen
                          obtain ⟨hjr2, hc0, hc1⟩ := RKX.out c r (look_at HEN.out hat)
                          obtain ⟨cN, rfl⟩ : ∃ cN : Nat, c = cN := ⟨c.toNat, by omega⟩
                          have hcn : cN < 2 * cs.length := by omega
                          have BU : Hid (Below w7.heap.size w7 wu) := BX.out.grown hg1 bsx (by intro g' e; injection e with e; omega)
                          have cy : wu.cell? ⟨g, cN, none⟩ = some (.int .i64 r) := by
                            have := (RB7.out.below BU.out RB7.out.lt).cell (i := cN) (j := 0) hcn (by omega)
                            rw [hjr2] at this
                            simpa using this
                          have OWNU := Lib.hid (own_keptJ OWNX.out hg1 (fun q hq => by have := (OG5.out q hq).2; omega))
                          have q2 : (r != r) = false := by simp
                          have HRG := Lib.hid hrg
                          have HRG1 := Lib.hid hrg1
                          clear hat hs1 hg1 hrg hrg1 hlx hwx hwc hjr2
                          go_wp2_with fail
                          go_roundw
                          case rel => exact ⟨_, _, HRG1.out, OWNU.out, BU.out⟩
                          case measure => rw [HRG1.out.left_eq, HRG.out.left_eq]; exact hlt
                · obtain rfl : j = xs.length := by omega
                  have R : Hid (RelAll ps w7 u11 (.int .i64 ((k + 1 : Nat) : Int)) wr) := ⟨k + 1, by omega, rfl, by rw [DS.out, ← IDK.out]; exact own, bel⟩
                  clear own bel
                  go_wp2_with fail
                  exact ⟨by simpa using R.out, by simp [RowKit.intOf]; omega⟩
            · obtain rfl : k = ns.length := by omega
              rw [List.take_of_length_le (by omega)] at own
              obtain ⟨a1, c1, rfl, _, rc1, _⟩ := rec_of_own (d := d0) (m := 3) cD_len3 (by decide) (OWN7.out)
              obtain ⟨a2, c2, rfl, _, rc2, _⟩ := rec_of_own (d := d0) (m := 3) cD_len3 (by decide) own
              have RC1 := Lib.hid (rc1.below (Nat.le_refl _) bel)
              have RC2 := Lib.hid rc2
              have BF : Hid (Below w.heap.size w wr) := BF7.out.trans (bel.mono (by omega))
              clear own bel rc1 rc2
              go_wp2_with fail
              refine (eqD_any (joinD ps) (joinD ps) a1 a2 c1 c2 _ (by omega) (by omega) RC1.out RC2.out).mono ?_
              rintro e w8 ⟨rfl, bel8⟩
              have BF8 : Hid (Below w.heap.size w w8) := BF.out.trans (bel8.mono BF.out.size)
              clear bel8
              rw [decide_eq_true rfl]
              go_wp2_with fail
              go_ret
              exact ⟨rfl, BF8.out⟩
end Go.Proofs.Ytjhbjifhponciaa.localAgreesW
