/- The contracts of the law's plain, of the reference's Own, and of slices.Equal at dependencies and ranks. -/
import Derived.Test.YtljojgpjgjfddaaLVerdict
namespace Go.Proofs.Ytljojgpjgjfddaa
open Go.RowKit Go.Maps
set_option linter.unusedVariables false

theorem infoR22Dep : (Try.prog.info? 94).map (fun i => (i.zero, i.size, i.bytes)) = some (some (.agg #[.int .i64 0, .int .i64 0, .int .i64 0]), 3, 24) := by kernel_rfl
theorem cD_one (l : List Dp) : ∀ u ∈ l.flatMap cD, u.oneCell' = true := by
  intro u hu
  rw [List.mem_flatMap] at hu
  obtain ⟨d, _, hd⟩ := hu
  simp only [cD, List.mem_cons, List.not_mem_nil, or_false] at hd
  rcases hd with rfl | rfl | rfl <;> rfl
/-- A new slice of dependencies of the reference. -/
def RDPost (l : List Dp) (w : World) (e : Ending) (w' : World) : Prop :=
  ∃ v, e = .returned v ∧ w'.ownsRow w.heap.size 94 3 v l.length (l.flatMap cD) ∧ Below w.heap.size w w'
def RelPl (ds : List Dp) (w : World) (v i : Value) (wr : World) : Prop :=
  ∃ k : Nat, k ≤ ds.length ∧ i = .int .i64 k ∧ wr.ownsRow w.heap.size 94 3 v k ((ds.take k).flatMap cD) ∧ Below w.heap.size w wr
set_option maxRecDepth 100000 in
set_option maxHeartbeats 1000000 in
theorem plain_any (ds : List Dp) (a : Option Addr) (c : Nat) (w : World) (hl : ds.length ≤ 1000000) (h : IsRec 3 cD d0 w a ds.length ds) :
    Calls Try.prog 16 #[.slice a ds.length c] w (RDPost ds w) := by
  have H := Lib.hid h
  clear h
  obtain ⟨i0, hi0, hz0, hz1, hz2⟩ := info_parts infoR22Dep
  go_enter Try.func16, Try.ntmps16
  go_wp2_with fail
  go_loopw [3, 8] (fun v i wr => RelPl ds w v i wr) (fun _ i _ => ds.length - (intOf i).toNat)
  case atStart => exact ⟨0, Nat.zero_le _, rfl, World.ownsRow_nil _ _ _ _, Below.refl _ _⟩
  case round =>
    obtain ⟨k, hk, rfl, own, bel⟩ := hrel
    have bs := bel.size
    by_cases hkr : k < ds.length
    · obtain ⟨bb, off, ha, hbb, hmem, c0, c1, c2⟩ := dep_at (H.out.below (Nat.le_refl _) bel) k hkr
      have TS := Lib.hid (take_snocG d0 ds k hkr)
      generalize ds.getD k d0 = x at *
      subst ha
      obtain ⟨df, dt, dn⟩ := x
      simp only at c0 c1 c2
      have OG : Hid (∀ g, u3.ownBlock = some g → w.heap.size ≤ g) := fun g e => (own.lt g e).1
      clear hmem
      go_wp2_with (at_builtin; refine wpList_append_own _ rfl _ _ 40 rfl w.heap.size 94 i0 _ 3 24 Try.underlying40 hi0 hz0 hz1 hz2 rfl (by decide) _ _ _ rfl ((own.alloc _).alloc _) ⟨wr.heap.size + 1, 0, none⟩ 1 1 (cD (df, dt, dn)) rfl rfl ?e1 ?e2 ?e3 ?e4 ?e5 ?_)
      case e1 => exact World.news_of_block (cs := #[.int .i64 df, .int .i64 dt, .int .i64 dn]) (t := 94) (fr := (0, 0)) (by have h := heap_alloc_new (wr.alloc (.cells #[.int .i64 df, .int .i64 dt, .int .i64 dn] 49)) (.cells #[.int .i64 df, .int .i64 dt, .int .i64 dn] 94); simpa using h)
      case e2 => intro u hu; simp [cD] at hu; rcases hu with rfl | rfl | rfl <;> rfl
      case e3 => unfold maxLen; omega
      case e4 => omega
      case e5 => simp; omega
      intro v' w4 own4 gr4 _
      have R : RelPl ds w v' (.int .i64 ((k + 1 : Nat) : Int)) w4 := by
        refine ⟨k + 1, by omega, rfl, ?_, ?_⟩
        · rw [TS.out, List.flatMap_append, List.flatMap_singleton]; exact own4
        · exact ((bel.alloc bs _).alloc (by simp; omega) _).grown gr4 (by simp; omega) OG.out
      clear own4 gr4 own
      go_wp2
      exact ⟨by simpa using R, by simp [intOf]; omega⟩
    · obtain rfl : k = ds.length := by omega
      have F : Hid (RDPost ds w (.returned u3) wr) := ⟨u3, rfl, by rw [List.take_length] at own; exact own, bel⟩
      clear own
      go_wp2_with fail
      go_ret
      exact F.out

def RelOw (ds : List Dp) (node : Int) (w : World) (v i : Value) (wr : World) : Prop :=
  ∃ k : Nat, k ≤ ds.length ∧ i = .int .i64 k ∧ wr.ownsRow w.heap.size 94 3 v (ownDeps (ds.take k) node).length ((ownDeps (ds.take k) node).flatMap cD) ∧ Below w.heap.size w wr
theorem own_snocZ (ds : List Dp) (node : Int) (k : Nat) (h : k < ds.length) : ownDeps (ds.take (k + 1)) node = ownDeps (ds.take k) node ++ (if (ds.getD k d0).2.2 == node then [ds.getD k d0] else []) := by
  rw [take_snocG d0 ds k h]; unfold ownDeps; rw [List.filter_append, List.filter_cons, List.filter_nil]
theorem own_len (ds : List Dp) (node : Int) (k : Nat) : (ownDeps (ds.take k) node).length ≤ ds.length :=
  Nat.le_trans (List.length_filter_le _ _) (by rw [List.length_take]; omega)
theorem fieldsOf_of {P : Program} {t : TypeId} {fs : Array Field} (h : P.underlying t = some (.struct fs)) : P.fieldsOf t = fs := by unfold Program.fieldsOf; rw [h]
def RelEqD (l1 l2 : List Dp) (w : World) (i : Value) (wr : World) : Prop :=
  ∃ k : Nat, k ≤ l1.length ∧ i = .int .i64 k ∧ l1.take k = l2.take k ∧ Below w.heap.size w wr

/-! slices.Equal at dependencies of the reference. -/
theorem eqDepRD (a b c d e f : Int) (w : World) : (Op.equalIn 10000 94 (.agg #[.int .i64 a, .int .i64 b, .int .i64 c]) (.agg #[.int .i64 d, .int .i64 e, .int .i64 f])).run Try.prog w = .ok (a == d && b == e && c == f) w := by
  have u3 := Try.underlying3
  have a3 := Try.isAgg3
  have z3 := Try.sizeOf3
  have ht := Try.underlying94
  have hf := fieldsOf_of ht
  rw [show (10000 : Nat) = 9999 + 1 from rfl, run_equalIn_struct w 9999 94 _ _ (by rw [hf]; exact ht) (by kernel_rfl), hf]
  simp only [Op.eqFields]
  go_simp
  by_cases h1 : a = d <;> by_cases h2 : b = e <;> by_cases h3 : c = f <;> simp [h1, h2, h3]
/-! slices.Equal at dependencies. -/
theorem eqDepD (a b c d e f : Int) (w : World) : (Op.equalIn 10000 49 (.agg #[.int .i64 a, .int .i64 b, .int .i64 c]) (.agg #[.int .i64 d, .int .i64 e, .int .i64 f])).run Try.prog w = .ok (a == d && b == e && c == f) w := by
  have u3 := Try.underlying3
  have a3 := Try.isAgg3
  have z3 := Try.sizeOf3
  have ht := Try.underlying49
  have hf := fieldsOf_of ht
  rw [show (10000 : Nat) = 9999 + 1 from rfl, run_equalIn_struct w 9999 49 _ _ (by rw [hf]; exact ht) (by kernel_rfl), hf]
  simp only [Op.eqFields]
  go_simp
  by_cases h1 : a = d <;> by_cases h2 : b = e <;> by_cases h3 : c = f <;> simp [h1, h2, h3]
set_option maxRecDepth 100000 in
set_option maxHeartbeats 1000000 in
theorem eqD_any (l1 l2 : List Dp) (a1 a2 : Option Addr) (c1 c2 : Nat) (w : World) (hl : l1.length ≤ 2000000) (hl2 : l2.length ≤ 2000000) (h1 : IsRec 3 cD d0 w a1 l1.length l1) (h2 : IsRec 3 cD d0 w a2 l2.length l2) :
    Calls Try.prog 23 #[.slice a1 l1.length c1, .slice a2 l2.length c2] w fun e w' => e = .returned (.bool (decide (l1 = l2))) ∧ Below w.heap.size w w' := by
  by_cases hlen : l1.length = l2.length
  · have q0 : ((l1.length : Int) != (l2.length : Int)) = false := by simp [hlen]
    have HL := Lib.hid hlen
    have H1 := Lib.hid h1
    have H2 := Lib.hid h2
    clear hlen h1 h2
    go_enter Try.func23, Try.ntmps23
    go_wp2_with fail
    go_loopw [13] (fun i wr => RelEqD l1 l2 w i wr) (fun i _ => l1.length - (RowKit.intOf i).toNat)
    case atStart => exact ⟨0, Nat.zero_le _, rfl, rfl, Below.refl _ _⟩
    case round =>
      obtain ⟨k, hk, rfl, heq, bel⟩ := hrel
      have HE := Lib.hid heq
      have HLL := HL.out
      clear heq
      by_cases hkr : k < l1.length
      · have hkr2 : k < l2.length := by omega
        obtain ⟨b1, o1, ha1, hb1, hm1, e0, e1, e2⟩ := dep_at (H1.out.below (Nat.le_refl _) bel) k hkr
        obtain ⟨b2, o2, ha2, hb2, hm2, f0, f1, f2⟩ := dep_at (H2.out.below (Nat.le_refl _) bel) k hkr2
        subst ha1
        subst ha2
        have SN := Lib.hid (fun e => take_eq_snoc d0 HE.out hkr hkr2 e)
        have NE : Hid (l1.getD k d0 ≠ l2.getD k d0 → decide (l1 = l2) = false) := fun h => decide_eq_false (fun e => h (by rw [e]))
        generalize l1.getD k d0 = x at *
        generalize l2.getD k d0 = y at *
        clear hm1 hm2 HLL
        have i1 : (0 : Int) ≤ (k : Int) := by omega
        have i2 : (k : Int) < (l1.length : Int) := by omega
        have i3 : (k : Int) < (l2.length : Int) := by omega
        obtain ⟨x0, x1, x2⟩ := x
        obtain ⟨y0, y1, y2⟩ := y
        simp only at e0 e1 e2 f0 f1 f2
        have heq := eqDepD x0 x1 x2 y0 y1 y2
        cases hq : (x0 == y0 && x1 == y1 && x2 == y2) with
        | true =>
          rw [hq] at heq
          have S2 := Lib.hid (SN.out (by simp only [Bool.and_eq_true, beq_iff_eq] at hq; obtain ⟨⟨rfl, rfl⟩, rfl⟩ := hq; rfl))
          clear SN NE hq
          go_wp2_with fail
          go_quiet (fail)
          go_wp2_with fail
          exact ⟨⟨k + 1, by omega, by simp, S2.out, below_drewN bel _⟩, by simp [RowKit.intOf]; omega⟩
        | false =>
          rw [hq] at heq
          have S2 := Lib.hid (NE.out (by intro e; injection e with e1 e2; injection e2 with e2 e3; subst e1; subst e2; subst e3; simp at hq))
          clear SN NE hq
          go_wp2_with fail
          go_quiet (fail)
          go_wp2_with fail
          go_ret
          exact ⟨by rw [S2.out]; rfl, below_drewN bel _⟩
      · obtain rfl : k = l1.length := by omega
        have F : Hid (decide (l1 = l2) = true) := by
          rw [Hid, decide_eq_true_iff]
          have := HE.out
          rw [List.take_length] at this
          rw [List.take_of_length_le (by omega)] at this
          exact this
        clear HLL
        go_wp2_with fail
        go_ret
        exact ⟨by rw [F.out]; rfl, bel⟩
  · have q0 : ((l1.length : Int) != (l2.length : Int)) = true := by simp; omega
    have F : Hid (decide (l1 = l2) = false) := decide_eq_false (fun e => hlen (by rw [e]))
    clear hlen
    go_enter Try.func23, Try.ntmps23
    go_wp2_with fail
    go_ret
    exact ⟨by rw [F.out]; rfl, Below.refl _ _⟩

set_option maxHeartbeats 1000000 in
theorem eqR_any (l1 l2 : List Int) (a1 a2 : Option Addr) (c1 c2 : Nat) (w : World) (hl : l1.length ≤ 2000000) (hl2 : l2.length ≤ 2000000) (h1 : IsRec 1 cI 0 w a1 l1.length l1) (h2 : IsRec 1 cI 0 w a2 l2.length l2) :
    Calls Try.prog 24 #[.slice a1 l1.length c1, .slice a2 l2.length c2] w fun e w' => e = .returned (.bool (decide (l1 = l2))) ∧ Below w.heap.size w w' := by
  by_cases hlen : l1.length = l2.length
  · have q0 : ((l1.length : Int) != (l2.length : Int)) = false := by simp [hlen]
    have HL := Lib.hid hlen
    have H1 := Lib.hid h1
    have H2 := Lib.hid h2
    clear hlen h1 h2
    go_enter Try.func24, Try.ntmps24
    go_wp2_with fail
    go_loopw [13] (fun i wr => RelEq l1 l2 w i wr) (fun i _ => l1.length - (RowKit.intOf i).toNat)
    case atStart => exact ⟨0, Nat.zero_le _, rfl, rfl, Below.refl _ _⟩
    case round =>
      obtain ⟨k, hk, rfl, heq, bel⟩ := hrel
      have HE := Lib.hid heq
      have HLL := HL.out
      clear heq
      by_cases hkr : k < l1.length
      · have hkr2 : k < l2.length := by omega
        obtain ⟨b1, o1, ha1, hb1, hm1, e1⟩ := int_at (H1.out.below (Nat.le_refl _) bel) k hkr
        obtain ⟨b2, o2, ha2, hb2, hm2, e2⟩ := int_at (H2.out.below (Nat.le_refl _) bel) k hkr2
        subst ha1
        subst ha2
        have SN := Lib.hid (fun e => take_eq_snoc (0 : Int) HE.out hkr hkr2 e)
        have NE : Hid (l1.getD k 0 ≠ l2.getD k 0 → decide (l1 = l2) = false) := fun h => decide_eq_false (fun e => h (by rw [e]))
        generalize l1.getD k 0 = x at *
        generalize l2.getD k 0 = y at *
        clear hm1 hm2 HLL
        have i1 : (0 : Int) ≤ (k : Int) := by omega
        have i2 : (k : Int) < (l1.length : Int) := by omega
        have i3 : (k : Int) < (l2.length : Int) := by omega
        by_cases hxy : x = y
        · have S2 := Lib.hid (SN.out hxy)
          have q1 : (x != y) = false := by simp [hxy]
          clear SN NE hxy
          go_wp2_with fail
          go_quiet (fail)
          go_wp2_with fail
          exact ⟨⟨k + 1, by omega, by simp, S2.out, below_drewN bel _⟩, by simp [RowKit.intOf]; omega⟩
        · have S2 := Lib.hid (NE.out hxy)
          have q1 : (x != y) = true := by simp [hxy]
          clear SN NE hxy
          go_wp2_with fail
          go_quiet (fail)
          go_wp2_with fail
          go_ret
          exact ⟨by rw [S2.out]; rfl, below_drewN bel _⟩
      · obtain rfl : k = l1.length := by omega
        have F : Hid (decide (l1 = l2) = true) := by
          rw [Hid, decide_eq_true_iff]
          have := HE.out
          rw [List.take_length] at this
          rw [List.take_of_length_le (by omega)] at this
          exact this
        clear HLL
        go_wp2_with fail
        go_ret
        exact ⟨by rw [F.out]; rfl, bel⟩
  · have q0 : ((l1.length : Int) != (l2.length : Int)) = true := by simp; omega
    have F : Hid (decide (l1 = l2) = false) := decide_eq_false (fun e => hlen (by rw [e]))
    clear hlen
    go_enter Try.func24, Try.ntmps24
    go_wp2_with fail
    go_ret
    exact ⟨by rw [F.out]; rfl, Below.refl _ _⟩


end Go.Proofs.Ytljojgpjgjfddaa
