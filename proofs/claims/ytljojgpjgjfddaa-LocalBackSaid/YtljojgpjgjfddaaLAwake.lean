/- The contracts of the law's own pair, awake and great. -/
import Derived.Test.YtljojgpjgjfddaaLLaw
namespace Go.Proofs.Ytljojgpjgjfddaa
open Go.RowKit Go.Maps
set_option linter.unusedVariables false

def pairP : Pl := ⟨[⟨⟨#[97]⟩, true, 1⟩, ⟨⟨#[98]⟩, true, 1⟩], [⟨0, 0, 1, 0, 1, 1⟩]⟩
def PairPost (w : World) (e : Ending) (w' : World) : Prop :=
  ∃ An Ac, e = .returned (.agg #[.slice An 2 2, .slice Ac 1 1]) ∧ IsPlan w' An Ac pairP ∧ Below w.heap.size w w'
theorem isRec_lit {α : Type} {m : Nat} {c : α → List Value} {d : α} (w : World) (t : TypeId) (xs : List α) (hm : 0 < m) (hc : ∀ x, (c x).length = m) (hx : 0 < xs.length) :
    IsRec m c d (w.alloc (.cells (xs.flatMap c).toArray t)) (some ⟨w.heap.size, 0, none⟩) xs.length xs := by
  refine ⟨rfl, fun h0 => ⟨w.heap.size, 0, rfl, by simp, fun i j hi hj => ?_⟩⟩
  rw [(Blk.new w t _).cell]
  rw [Nat.zero_add, ← flatG_at hc xs i j hi hj]
  simp
set_option maxRecDepth 100000 in
theorem pair_any (w : World) : Calls Try.prog 42 #[] w (PairPost w) := by
  go_enter Try.func42, Try.ntmps42
  go_wp2_with fail
  refine bodyPost_ret (v := .agg #[.slice (some ⟨w.heap.size + 1, 0, none⟩) 2 2, .slice (some ⟨w.heap.size + 1 + 1, 0, none⟩) 1 1]) (by simp [results, Try.results42, go_sem]) rfl ?_
  refine ⟨_, _, rfl, ⟨?_, ?_⟩, (((Below.refl _ _).alloc (Nat.le_refl _) _).alloc (by simp) _).alloc (by simp; omega) _⟩
  · have h := isRec_lit (m := 3) (c := cN) (d := nd0) (w.alloc (.cells #[.slice (some ⟨w.heap.size + 1, 0, none⟩) 2 2, .slice (some ⟨w.heap.size + 1 + 1, 0, none⟩) 1 1] 25)) 105 pairP.ns (by decide) (fun _ => rfl) (by decide)
    have e : (w.alloc (.cells #[.slice (some ⟨w.heap.size + 1, 0, none⟩) 2 2, .slice (some ⟨w.heap.size + 1 + 1, 0, none⟩) 1 1] 25)).heap.size = w.heap.size + 1 := by simp
    rw [e] at h
    exact h.alloc _
  · have h := isRec_lit (m := 6) (c := cC) (d := cb0) ((w.alloc (.cells #[.slice (some ⟨w.heap.size + 1, 0, none⟩) 2 2, .slice (some ⟨w.heap.size + 1 + 1, 0, none⟩) 1 1] 25)).alloc (.cells #[.string ⟨#[97]⟩, .bool true, .int .i64 1, .string ⟨#[98]⟩, .bool true, .int .i64 1] 105)) 73 pairP.cs (by decide) (fun _ => rfl) (by decide)
    have e : ((w.alloc (.cells #[.slice (some ⟨w.heap.size + 1, 0, none⟩) 2 2, .slice (some ⟨w.heap.size + 1 + 1, 0, none⟩) 1 1] 25)).alloc (.cells #[.string ⟨#[97]⟩, .bool true, .int .i64 1, .string ⟨#[98]⟩, .bool true, .int .i64 1] 105)).heap.size = w.heap.size + 1 + 1 := by simp
    rw [e] at h
    exact h

theorem wfP_pair : WfP pairP := by
  refine ⟨?_, ?_⟩
  · intro x hx
    simp only [pairP, List.mem_cons, List.not_mem_nil, or_false] at hx
    rcases hx with rfl | rfl <;> exact ⟨by decide, by decide⟩
  · intro x hx
    simp only [pairP, List.mem_cons, List.not_mem_nil, or_false] at hx
    subst hx
    exact ⟨by decide, by decide, by decide, by decide, by decide, by decide⟩
theorem valid_pair : validP pairP = 0 := by decide +kernel
theorem split_pair_err : splitErr pairP [] [5, 6] = 0 := by decide +kernel
theorem split_pair (An Ac Ar : Option Addr) (w : World) (h : IsPlan w An Ac pairP) (hr : IsRec 1 cI 0 w Ar 2 [5, 6]) :
    Calls Try.prog 19 #[.agg #[.slice An 2 2, .slice Ac 1 1], .slice none 0 0, .slice Ar 2 2] w (SplitPost pairP [] [5, 6] w) :=
  split_any pairP An Ac none Ar 2 1 0 2 [] [5, 6] w (by decide) (by decide) wfP_pair (by decide) (by decide) (by intro d hd; cases hd) (by intro x hx; simp at hx; rcases hx with rfl | rfl <;> decide) h (IsRec.nil w) hr
/-- What Split leaves reads as the parts. -/
theorem SplitOk.parts {p : Pl} {ds : List Dp} {r : List Int} {w w' : World} {g : Nat} {dv : Nat → Value} {mb : Nat → Nat} (h : SplitOk p ds r w w' g dv mb) : IsParts w' (some ⟨g, 0, none⟩) p.ns.length (splitL p ds r) := by
  refine ⟨splitL_length p ds r, fun h0 => ⟨g, 0, rfl, h.row.lt, fun i hi => ?_⟩⟩
  rw [splitL_get p ds r hi]
  obtain ⟨a, cap, hv, _, hrec, _⟩ := rec_of_own (m := 3) (c := cD) (d := d0) (fun _ => rfl) (by decide) (h.deps i hi)
  refine ⟨[.int .i64 i, dv i, .map (some (mb i))], ⟨a, cap, some (mb i), by rw [hv]; rfl, hrec, .inr ⟨mb i, rfl, h.maps i hi⟩⟩, fun j hj => ?_⟩
  rw [Nat.zero_add, h.row.cell hi hj]
theorem small_split (p : Pl) (ds : List Dp) (r : List Int) (h : p.cs.length ≤ 100000) : smallMaps (splitL p ds r) := by
  intro x hx
  unfold splitL at hx
  rw [List.mem_map] at hx
  obtain ⟨i, _, rfl⟩ := hx
  show (ranksOf p.cs r i).length ≤ _
  unfold ranksOf
  rw [List.length_map]
  have := chTo_length p.cs i p.cs.length
  unfold chansAt
  omega
theorem agree_pair (xs : List Pt) (e : Int) (he : agreeErr pairP xs = e) (An Ac Al : Option Addr) (cl : Nat) (w : World) (hlx : xs.length = 2) (hsm : smallMaps xs) (h : IsPlan w An Ac pairP) (hx : IsParts w Al 2 xs) :
    Calls Try.prog 25 #[.agg #[.slice An 2 2, .slice Ac 1 1], .slice Al 2 cl] w fun en w' => en = .returned (.int .i64 e) ∧ Below w.heap.size w w' := by
  have := agree_any pairP An Ac Al 2 1 cl xs w (by decide) (by decide) wfP_pair (by omega) hsm h (by rw [hlx]; exact hx)
  rw [he, hlx] at this
  exact this

def badPt : Pt := ⟨1, [], [(0, 5), (1, 7)]⟩
theorem bad_sort : sortE badPt.ranks = [0, 1] := sortE_of_sorted (by simp [keysE, badPt])
theorem agree_bad : agreeErr pairP [splitPt pairP [] [5, 6] 0, badPt] = 9 := by
  refine agr9 valid_pair (by decide +kernel) ?_ (by decide +kernel)
  refine split_form pairP _ (by decide +kernel) fun i hi => ?_
  have hi : i < 2 := hi
  match i, hi with
  | 0, _ => exact sortE_ranksOf pairP.cs [5, 6] 0
  | 1, _ => exact bad_sort

set_option maxRecDepth 100000 in
set_option maxHeartbeats 4000000 in
theorem awake_any (w : World) : Calls Try.prog 11 #[] w fun e w' => e = .returned (.bool true) ∧ Below w.heap.size w w' := by
  have hmm := @run_makeMap Try.prog
  have SMB : Hid (smallMaps [splitPt pairP [] [5, 6] 0, badPt]) := by
    intro x hx
    simp only [List.mem_cons, List.not_mem_nil, or_false] at hx
    rcases hx with rfl | rfl
    · exact small_split pairP [] [5, 6] (by decide) _ (List.mem_map.2 ⟨0, by decide, rfl⟩)
    · decide
  go_enter Try.func11, Try.ntmps11
  go_wp2_with fail
  refine (pair_any _).mono ?_
  rintro e w1 ⟨An, Ac, rfl, hp1, bel1⟩
  have B1 := Lib.hid bel1
  have P1 := Lib.hid (hp1.alloc (.cells #[.int .i64 5, .int .i64 6] 3))
  have R1 : Hid (IsRec 1 cI 0 (w1.alloc (.cells #[.int .i64 5, .int .i64 6] 3)) (some ⟨w1.heap.size, 0, none⟩) 2 [5, 6]) := isRec_lit (m := 1) (c := cI) (d := (0 : Int)) w1 3 [5, 6] (by decide) (fun _ => rfl) (by decide)
  have BA := Lib.hid (B1.out.alloc bel1.size (.cells #[.int .i64 5, .int .i64 6] 3))
  have s1 := bel1.size
  clear hp1 bel1
  go_wp2_with fail
  refine (split_pair An Ac _ _ P1.out R1.out).mono ?_
  rintro e w3 ⟨bel3, ⟨hne, _⟩ | ⟨_, g, dv, mb, rfl, hok⟩⟩
  · exact absurd split_pair_err hne
  have n2 : pairP.ns.length = 2 := rfl
  rw [n2]
  have IP := Lib.hid hok.parts
  have c2 : w3.cell? ⟨g, 2, none⟩ = some (.map (some (mb 0))) := hok.row.cell (i := 0) (j := 2) (by decide) (by decide)
  have c3 : w3.cell? ⟨g, 3, none⟩ = some (.int .i64 1) := hok.row.cell (i := 1) (j := 0) (by decide) (by decide)
  have c5 : w3.cell? ⟨g, 5, none⟩ = some (.map (some (mb 1))) := hok.row.cell (i := 1) (j := 2) (by decide) (by decide)
  have r1 : (Instr.lookup 30 (.map (some (mb 0))) (.int .i64 0) false).run Try.prog w3 = .ok (.int .i64 5) w3 := (hok.maps 0 (by decide)).look Try.underlying3 Try.underlying3 Try.underlying30 (zeroInt _) (by decide)
  have r2 : (Instr.lookup 30 (.map (some (mb 1))) (.int .i64 1) false).run Try.prog w3 = .ok (.int .i64 6) w3 := (hok.maps 1 (by decide)).look Try.underlying3 Try.underlying3 Try.underlying30 (zeroInt _) (by decide)
  have B3 := Lib.hid (BA.out.trans (bel3.mono (by simp; omega)))
  have OK := Lib.hid hok
  clear hok bel3 n2
  go_wp2_with fail
  refine (pair_any _).mono ?_
  rintro e w4 ⟨An2, Ac2, rfl, hp4, bel4⟩
  have P4 := Lib.hid hp4
  have IP4 : Hid (IsParts w4 (some ⟨g, 0, none⟩) 2 (splitL pairP [] [5, 6])) := IP.out.below (Nat.le_refl _) bel4
  have BEL4 := Lib.hid bel4
  clear hp4 bel4
  go_wp2_with fail
  refine (agree_pair (splitL pairP [] [5, 6]) 0 (agree_split pairP [] [5, 6] valid_pair) An2 Ac2 _ 2 _ rfl (small_split _ _ _ (by decide)) P4.out IP4.out).mono ?_
  rintro e w5 ⟨rfl, bel5⟩
  have B35 : Below w3.heap.size w3 w5 := BEL4.out.trans (bel5.mono BEL4.out.size)
  have BE35 := Lib.hid B35
  obtain ⟨wA, hA, mA, gA⟩ := (IMap.made w5 Try.prog 3 3).store (t := 30) (x := 0) (v := 5) Try.underlying3 Try.underlying3 Try.underlying30 (by decide) (by decide) (by decide)
  obtain ⟨wB, hB, mB, gB⟩ := mA.store (t := 30) (x := 1) (v := 7) Try.underlying3 Try.underlying3 Try.underlying30 (by decide) (by decide) (by decide)
  have BB : Hid (Below w5.heap.size w5 wB) := ((((Below.refl _ _).alloc (Nat.le_refl _) _).grown gA (by simp) (by intro q e; injection e with e; omega)).grown gB (by have := gA.size; simp at this; omega) (by intro q e; injection e with e; omega))
  have MB := Lib.hid mB
  clear bel5 B35 mA mB gA gB c2 c3 c5 r1 r2
  obtain ⟨a0, cap0, hv0, _, hrec0, _⟩ := rec_of_own (m := 3) (c := cD) (d := d0) (fun _ => rfl) (by decide) (OK.out.deps 0 (by decide))
  have B3B : Hid (Below w3.heap.size w3 wB) := BE35.out.trans (BB.out.mono BE35.out.size)
  have szB : w5.heap.size ≤ wB.heap.size := BB.out.size
  have sz35 : w3.heap.size ≤ w5.heap.size := BE35.out.size
  have gl := OK.out.row.lt
  obtain ⟨wc, hwc⟩ : ∃ wc : World, wB.alloc (.cells #[.int .i64 1, .slice none 0 0, .map (some w5.heap.size)] 32) = wc := ⟨_, rfl⟩
  have BC : Below w3.heap.size w3 wc := by rw [← hwc]; exact B3B.out.alloc (by omega) _
  have k0 : wc.cell? ⟨g, 0, none⟩ = some (.int .i64 0) := (BC.cell gl).trans (OK.out.row.cell (i := 0) (j := 0) (by decide) (by decide))
  have k1 : wc.cell? ⟨g, 1, none⟩ = some (.slice a0 0 cap0) := (BC.cell gl).trans ((OK.out.row.cell (i := 0) (j := 1) (by decide) (by decide)).trans (by show some (dv 0) = _; rw [hv0]; rfl))
  have k2 : wc.cell? ⟨g, 2, none⟩ = some (.map (some (mb 0))) := (BC.cell gl).trans (OK.out.row.cell (i := 0) (j := 2) (by decide) (by decide))
  have b0 : wc.cell? ⟨wB.heap.size, 0, none⟩ = some (.int .i64 1) := by rw [← hwc]; simp [go_sem]
  have b1 : wc.cell? ⟨wB.heap.size, 1, none⟩ = some (.slice none 0 0) := by rw [← hwc]; simp [go_sem]
  have b2 : wc.cell? ⟨wB.heap.size, 2, none⟩ = some (.map (some w5.heap.size)) := by rw [← hwc]; simp [go_sem]
  have szc : wB.heap.size < wc.heap.size := by rw [← hwc]; simp
  have MC : Hid (IM wc w5.heap.size [(0, 5), (1, 7)]) := by rw [Hid, ← hwc]; exact MB.out.alloc _
  have M0 : Hid (IM wc (mb 0) (ranksOf pairP.cs [5, 6] 0)) := (OK.out.maps 0 (by decide)).below BC (OK.out.maps 0 (by decide)).lt
  have D0 : Hid (IsRec 3 cD d0 wc a0 0 []) := hrec0.below (Nat.le_refl _) BC
  have glc : g < wc.heap.size := by have := BC.size; omega
  have KP : Hid (∀ w', Below wc.heap.size wc w' → w'.cell? ⟨g, 0, none⟩ = some (.int .i64 0) ∧ w'.cell? ⟨g, 1, none⟩ = some (.slice a0 0 cap0) ∧ w'.cell? ⟨g, 2, none⟩ = some (.map (some (mb 0))) ∧ w'.cell? ⟨wB.heap.size, 0, none⟩ = some (.int .i64 1) ∧ w'.cell? ⟨wB.heap.size, 1, none⟩ = some (.slice none 0 0) ∧ w'.cell? ⟨wB.heap.size, 2, none⟩ = some (.map (some w5.heap.size))) :=
    fun w' hb => ⟨(hb.cell glc).trans k0, (hb.cell glc).trans k1, (hb.cell glc).trans k2, (hb.cell szc).trans b0, (hb.cell szc).trans b1, (hb.cell szc).trans b2⟩
  have XP : Hid (∀ w', Below wc.heap.size wc w' → IsParts (w'.alloc (.cells #[.int .i64 0, .slice a0 0 cap0, .map (some (mb 0)), .int .i64 1, .slice none 0 0, .map (some w5.heap.size)] 32)) (some ⟨w'.heap.size, 0, none⟩) 2 [splitPt pairP [] [5, 6] 0, badPt]) := by
    intro w' hb
    have bx : Below wc.heap.size wc (w'.alloc (.cells #[.int .i64 0, .slice a0 0 cap0, .map (some (mb 0)), .int .i64 1, .slice none 0 0, .map (some w5.heap.size)] 32)) := hb.alloc hb.size _
    have blk := Blk.new w' 32 #[.int .i64 0, .slice a0 0 cap0, .map (some (mb 0)), .int .i64 1, .slice none 0 0, .map (some w5.heap.size)]
    refine ⟨rfl, fun _ => ⟨w'.heap.size, 0, rfl, by simp, fun i hi => ?_⟩⟩
    match i, hi with
    | 0, _ =>
      refine ⟨[.int .i64 0, .slice a0 0 cap0, .map (some (mb 0))], ⟨a0, cap0, some (mb 0), rfl, D0.out.below (Nat.le_refl _) bx, .inr ⟨mb 0, rfl, M0.out.below bx M0.out.lt⟩⟩, fun j hj => ?_⟩
      rw [blk.cell]
      match j, hj with
      | 0, _ => rfl
      | 1, _ => rfl
      | 2, _ => rfl
    | 1, _ =>
      refine ⟨[.int .i64 1, .slice none 0 0, .map (some w5.heap.size)], ⟨none, 0, some w5.heap.size, rfl, IsRec.nil _, .inr ⟨w5.heap.size, rfl, MC.out.below bx MC.out.lt⟩⟩, fun j hj => ?_⟩
      rw [blk.cell]
      match j, hj with
      | 0, _ => rfl
      | 1, _ => rfl
      | 2, _ => rfl
  have XPD : Hid (IsParts (wc.alloc (.cells #[.int .i64 0, .slice a0 0 cap0, .map (some (mb 0)), .int .i64 1, .slice none 0 0, .map (some w5.heap.size)] 32)).drew (some ⟨wc.heap.size, 0, none⟩) 2 [splitPt pairP [] [5, 6] 0, badPt]) := XP.out wc (Below.refl _ _)
  have BWC : Hid (Below w.heap.size w wc) := B3.out.trans (BC.mono B3.out.size)
  have HWC := Lib.hid hwc
  clear hwc BC
  go_wp2_with fail
  rw [HWC.out]
  go_region_held3 (fun w' => w'.cell? ⟨g, 0, none⟩ = some (.int .i64 0) ∧ w'.cell? ⟨g, 1, none⟩ = some (.slice a0 0 cap0) ∧ w'.cell? ⟨g, 2, none⟩ = some (.map (some (mb 0))) ∧ w'.cell? ⟨wB.heap.size, 0, none⟩ = some (.int .i64 1) ∧ w'.cell? ⟨wB.heap.size, 1, none⟩ = some (.slice none 0 0) ∧ w'.cell? ⟨wB.heap.size, 2, none⟩ = some (.map (some w5.heap.size)))
    (first | exact KP.out _ ((Below.refl _ _).drew) | exact KP.out _ (((Below.refl _ _).alloc (Nat.le_refl _) _).drew) | exact KP.out _ BP.out | exact KP.out _ (BP.out.alloc BP.out.size _) | exact KP.out _ BQ.out)
    (first
      | (go_at_call 42; refine (pair_any _).mono ?_; rintro e wp ⟨An3, Ac3, rfl, hp6, bel6⟩; (first | have BP : Hid (Below wc.heap.size wc wp) := ((Below.refl _ _).drew).trans bel6 | (have BP : Hid (Below wc.heap.size wc wp) := (((Below.refl _ _).alloc (Nat.le_refl _) _).drew).trans (bel6.mono (by simp)); have BL6 := Lib.hid bel6)); have P6 := Lib.hid hp6; clear hp6 bel6)
      | (go_at_call 25; (first
          | ((with_reducible refine (agree_pair [splitPt pairP [] [5, 6] 0, badPt] 9 agree_bad An3 Ac3 (some ⟨wp.heap.size, 0, none⟩) 2 _ rfl SMB.out (P6.out.alloc _) (XP.out wp BP.out)).mono ?_); rintro e wq ⟨rfl, belq⟩; have BQ : Hid (Below wc.heap.size wc wq) := (BP.out.alloc BP.out.size _).trans (belq.mono (by have := BP.out.size; simp; omega)))
          | ((with_reducible refine (agree_pair [splitPt pairP [] [5, 6] 0, badPt] 9 agree_bad An3 Ac3 (some ⟨wc.heap.size, 0, none⟩) 2 wp rfl SMB.out P6.out (XPD.out.below (Nat.le_refl _) BL6.out)).mono ?_); rintro e wq ⟨rfl, belq⟩; have BQ : Hid (Below wc.heap.size wc wq) := BP.out.trans (belq.mono BP.out.size))); clear belq))
  all_goals
    have F : Hid (Below w.heap.size w wq) := BWC.out.trans (BQ.out.mono BWC.out.size)
    go_wp2_with fail
    go_ret
    exact ⟨rfl, F.out⟩
end Go.Proofs.Ytljojgpjgjfddaa
