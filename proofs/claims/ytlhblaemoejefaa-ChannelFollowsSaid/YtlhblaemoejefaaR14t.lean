/- The contract of fairlinkref14.twice. -/
import Derived.Test.YtlhblaemoejefaaR14a
import Derived.Laws.StructEq
namespace Go.Proofs.Ytlhblaemoejefaa
open Go.RowKit Go.Maps
set_option linter.unusedVariables false

/-- Among the first k nodes no name occurs twice. -/
def RelV14_1 (ns : List Nd) (w1 : World) (i : Value) (wr : World) : Prop :=
  ∃ k : Nat, k ≤ ns.length ∧ i = .int .i64 k ∧ twTo sameName nd0 ns k = false ∧ Below w1.heap.size w1 wr
def RelV14_2 (ns : List Nd) (j : Nat) (w1 : World) (i : Value) (wr : World) : Prop :=
  ∃ k : Nat, k ≤ j ∧ i = .int .i64 k ∧ ((ns.take k).any fun y => sameName y (ns.getD j nd0)) = false ∧ Below w1.heap.size w1 wr
theorem any_take_snoc {α : Type} (f : α → Bool) (d : α) (l : List α) (k : Nat) (h : k < l.length) : (l.take (k + 1)).any f = ((l.take k).any f || f (l.getD k d)) := by
  rw [take_snocG d l k h, List.any_append]; simp
theorem any_take_mono {α : Type} (f : α → Bool) (l : List α) {k n : Nat} (h : (l.take k).any f = true) (hn : k ≤ n) : (l.take n).any f = true := by
  rw [List.any_eq_true] at h ⊢
  obtain ⟨x, hx, hf⟩ := h
  refine ⟨x, ?_, hf⟩
  rw [List.mem_take_iff_getElem] at hx ⊢
  obtain ⟨i, hi, e⟩ := hx
  exact ⟨i, by omega, e⟩

theorem infoArr2 : (Try.prog.info? 124).map (fun i => (i.zero, i.size, i.bytes)) = some (some (.agg #[.int .i64 0, .int .i64 0]), 2, 16) := by kernel_rfl
def cP (x : Int × Int) : List Value := [.int .i64 x.1, .int .i64 x.2]
theorem cP_length (x : Int × Int) : (cP x).length = 2 := rfl
theorem ends_snoc (cs : List Cb) (k : Nat) (h : k < cs.length) : endsOf (cs.take (k + 1)) = endsOf (cs.take k) ++ [((cs.getD k cb0).a, (cs.getD k cb0).ap), ((cs.getD k cb0).b, (cs.getD k cb0).bp)] := by
  unfold endsOf; rw [take_snocG cb0 cs k h, List.flatMap_append]; simp
theorem ends_len (cs : List Cb) : (endsOf cs).length = 2 * cs.length := by
  unfold endsOf
  induction cs with
  | nil => rfl
  | cons x l ih => rw [List.flatMap_cons, List.length_append, ih]; simp; omega
def RelV14_3 (cs : List Cb) (w1 : World) (v i : Value) (wr : World) : Prop :=
  ∃ k : Nat, k ≤ cs.length ∧ i = .int .i64 k ∧ wr.ownsRow w1.heap.size 124 2 v (endsOf (cs.take k)).length ((endsOf (cs.take k)).flatMap cP) ∧ Below w1.heap.size w1 wr
def RelV14_4 (es : List (Int × Int)) (w1 : World) (i : Value) (wr : World) : Prop :=
  ∃ k : Nat, k ≤ es.length ∧ i = .int .i64 k ∧ twTo samePair (0, 0) es k = false ∧ Below w1.heap.size w1 wr
def RelV14_5 (es : List (Int × Int)) (j : Nat) (w1 : World) (i : Value) (wr : World) : Prop :=
  ∃ k : Nat, k ≤ j ∧ i = .int .i64 k ∧ ((es.take k).any fun y => samePair y (es.getD j (0, 0))) = false ∧ Below w1.heap.size w1 wr

theorem eqArr2 (a b c d : Int) (w : World) : (Op.equalIn 10000 124 (.agg #[.int .i64 a, .int .i64 b]) (.agg #[.int .i64 c, .int .i64 d])).run Try.prog w = .ok (a == c && b == d) w := by
  have u3 := Try.underlying3
  have a3 := Try.isAgg3
  have z3 := Try.sizeOf3
  rw [show (10000 : Nat) = 9999 + 1 from rfl, Op.equalIn]
  simp only [Sem.run_bind, run_underlying Try.underlying124, Result.andThen_ok]
  simp only [Std.Legacy.Range.forIn_eq_forIn_range', Std.Legacy.Range.size, Nat.sub_zero, Nat.add_sub_cancel, Nat.div_one, List.range'_succ, List.range'_zero, List.forIn_cons, List.forIn_nil]
  go_simp
  by_cases h1 : a = c <;> by_cases h2 : b = d <;> simp [h1, h2]
theorem pair_at {w : World} {A : Option Addr} {len : Nat} {es : List (Int × Int)} (h : IsRec 2 cP (0, 0) w A len es) (k : Nat) (hk : k < len) :
    ∃ b off, A = some ⟨b, off, none⟩ ∧ b < w.heap.size ∧ w.cell? ⟨b, off + k * 2, none⟩ = some (.int .i64 (es.getD k (0, 0)).1) ∧ w.cell? ⟨b, off + k * 2 + 1, none⟩ = some (.int .i64 (es.getD k (0, 0)).2) := by
  obtain ⟨b, off, ha, hb, hc⟩ := h.2 (by omega)
  exact ⟨b, off, ha, hb, hc k 0 hk (by omega), hc k 1 hk (by omega)⟩

set_option maxRecDepth 100000 in
set_option maxHeartbeats 4000000 in
theorem twice_any (p : Pl) (An Ac : Option Addr) (cn cc : Nat) (w : World) (hl : p.ns.length ≤ 1000000) (hl2 : p.cs.length ≤ 1000000) (h : IsPlan w An Ac p) :
    Calls Try.prog 49 #[.agg #[.slice An p.ns.length cn, .slice Ac p.cs.length cc]] w fun e w' => e = .returned (.bool (repeatsB p)) ∧ Below w.heap.size w w' := by
  obtain ⟨ns, cs⟩ := p
  simp only at hl hl2 ⊢
  obtain ⟨w1, hw1⟩ : ∃ w1 : World, w.alloc (.cells #[.slice An ns.length cn, .slice Ac cs.length cc] 40) = w1 := ⟨_, rfl⟩
  have s0 : w1.cell? ⟨w.heap.size, 0, none⟩ = some (.slice An ns.length cn) := by rw [← hw1]; simp [go_sem]
  have s1 : w1.cell? ⟨w.heap.size, 1, none⟩ = some (.slice Ac cs.length cc) := by rw [← hw1]; simp [go_sem]
  have sz1 : w.heap.size < w1.heap.size := by rw [← hw1]; simp
  have BW0 : Below w.heap.size w w1 := by rw [← hw1]; exact (Below.refl _ _).alloc (Nat.le_refl _) _
  have BW := Lib.hid BW0
  have H1 := Lib.hid (h.below (Nat.le_refl _) BW0)
  have HW1 := Lib.hid hw1
  have KC : Hid (∀ w', Below w1.heap.size w1 w' → w'.cell? ⟨w.heap.size, 0, none⟩ = some (.slice An ns.length cn) ∧ w'.cell? ⟨w.heap.size, 1, none⟩ = some (.slice Ac cs.length cc) ∧ w.heap.size < w'.heap.size ∧ Below w.heap.size w w') :=
    fun w' hb => ⟨(hb.cell (by exact sz1)).trans s0, (hb.cell (by exact sz1)).trans s1, by have := hb.size; omega, BW0.trans (hb.mono (by omega))⟩
  clear h hw1 BW0
  go_enter Try.func49, Try.ntmps49
  go_wp2_with fail
  rw [HW1.out]
  go_loopw [3] (fun i wr => RelV14_1 ns w1 i wr) (fun i _ => ns.length - (RowKit.intOf i).toNat)
  case atStart => exact ⟨0, Nat.zero_le _, rfl, rfl, Below.refl _ _⟩
  case round =>
    clear s0 s1
    obtain ⟨k, hk, rfl, htw, bel⟩ := hrel
    have HT := Lib.hid htw
    have BE := Lib.hid bel
    clear htw
    obtain ⟨u0, u1, sz2, bw2⟩ := KC.out wr bel
    by_cases hkr : k < ns.length
    · have TS := Lib.hid (twTo_succ sameName nd0 ns k)
      obtain ⟨w2, rfl⟩ : ∃ w2 : World, w2 = wr := ⟨_, rfl⟩
      clear bw2 bel
      go_wp2_with fail
      go_loopw [4] (fun i wr => RelV14_2 ns k w2 i wr) (fun i _ => k - (RowKit.intOf i).toNat)
      case atStart => exact ⟨0, Nat.zero_le _, rfl, rfl, Below.refl _ _⟩
      case round =>
        clear u0 u1
        obtain ⟨j, hj, rfl, han, bel⟩ := hrel
        have HN := Lib.hid han
        clear han
        have B3 := Lib.hid (BE.out.trans (bel.mono BE.out.size))
        obtain ⟨u0, u1, sz3, bw3⟩ := KC.out wr B3.out
        by_cases hjr : j < k
        · have hjn : j < ns.length := by omega
          obtain ⟨bb, off, ha, hbb, hmem, c0, _, _⟩ := node_at (H1.out.below (Nat.le_refl _) B3.out).1 k hkr
          obtain ⟨bb2, off2, ha2, _, _, e0, _, _⟩ := node_at (H1.out.below (Nat.le_refl _) B3.out).1 j hjn
          rw [ha] at ha2
          injection ha2 with ha2
          injection ha2 with h1 h2
          subst h1
          subst h2
          subst ha
          have AS := Lib.hid (any_take_snoc (fun y => sameName y (ns.getD k nd0)) nd0 ns j hjn)
          have DF : Hid (sameName (ns.getD j nd0) (ns.getD k nd0) = ((ns.getD j nd0).name.data.toList == (ns.getD k nd0).name.data.toList)) := rfl
          generalize hgx : (ns.getD k nd0) = x at *
          generalize (ns.getD j nd0) = y at *
          have HX := Lib.hid hgx
          clear hgx
          generalize x.name = xn at *
          generalize y.name = yn at *
          have i1 : (0 : Int) ≤ (k : Int) := by omega
          have i2 : (k : Int) < (ns.length : Int) := by omega
          have i3 : (0 : Int) ≤ (j : Int) := by omega
          have i4 : (j : Int) < (ns.length : Int) := by omega
          clear hmem
          by_cases hxy : xn.data.toList = yn.data.toList
          · have q1 : (xn.toList == yn.toList) = true := by rw [ByteArray.toList_eq, ByteArray.toList_eq, hxy]; simp
            have FIN : Hid (repeatsB ⟨ns, cs⟩ = true) := by
              have e1 : twTo sameName nd0 ns (k + 1) = true := by
                rw [TS.out]
                have : ((ns.take k).any fun z => sameName z x) = true := any_take_mono _ _ (k := j + 1) (by rw [AS.out, DF.out, hxy]; simp) (by omega)
                rw [this]; simp
              rw [Hid]; unfold repeatsB twiceB
              rw [twTo_mono sameName nd0 ns (k + 1) e1 _ (by show k + 1 ≤ ns.length; omega)]; rfl
            clear hxy AS DF TS HT HN
            have BF := Lib.hid bw3
            go_wp2_with fail
            go_quiet (fail)
            go_wp2_with fail
            go_ret
            exact ⟨by rw [FIN.out]; rfl, bdrewN BF.out _⟩
          · have q1 : (xn.toList == yn.toList) = false := by rw [ByteArray.toList_eq, ByteArray.toList_eq]; simpa using hxy
            have R : Hid (((ns.take (j + 1)).any fun z => sameName z x) = false) := by
              have h2 : (yn.data.toList == xn.data.toList) = false := beq_eq_false_iff_ne.2 (fun e => hxy e.symm)
              rw [Hid, AS.out, HN.out, DF.out, h2]; rfl
            clear hxy AS DF
            go_wp2_with fail
            go_quiet (fail)
            go_wp2_with fail
            exact ⟨⟨j + 1, by omega, by simp, by rw [HX.out]; exact R.out, bdrewN bel _⟩, by simp [RowKit.intOf]; omega⟩
        · obtain rfl : j = k := by omega
          have R : Hid (RelV14_1 ns w1 (.int .i64 ((j + 1 : Nat) : Int)) wr) := ⟨j + 1, by omega, rfl, by rw [TS.out, HT.out, HN.out]; rfl, B3.out⟩
          clear TS HT HN bw3
          go_wp2_with fail
          exact ⟨by simpa using R.out, by simp [RowKit.intOf]; omega⟩
    · obtain rfl : k = ns.length := by omega
      clear bw2
      obtain ⟨w2, rfl⟩ : ∃ w2 : World, w2 = wr := ⟨_, rfl⟩
      obtain ⟨i0, hi0, hz0, hz1, hz2⟩ := info_parts infoArr2
      go_wp2_with fail
      go_loopw [5, 6] (fun v i wr => RelV14_3 cs w2 v i wr) (fun _ i _ => cs.length - (RowKit.intOf i).toNat)
      case atStart => exact ⟨0, Nat.zero_le _, rfl, World.ownsRow_nil _ _ _ _, Below.refl _ _⟩
      case round =>
        clear u0 u1 bel
        obtain ⟨k, hk, rfl, own, bel⟩ := hrel
        have bs := bel.size
        have B3 := Lib.hid (BE.out.trans (bel.mono BE.out.size))
        obtain ⟨u0, u1, sz3, bw3⟩ := KC.out wr B3.out
        clear bw3
        by_cases hkr : k < cs.length
        · obtain ⟨bb, off, ha, hbb, hmem, c0, c1, c2, c3, c4, c5⟩ := cable_at (H1.out.below (Nat.le_refl _) B3.out).2 k hkr
          have ES := Lib.hid (ends_snoc cs k hkr)
          have EL : (endsOf (cs.take k)).length ≤ 2 * k := by have := ends_len (cs.take k); rw [List.length_take] at this; omega
          generalize cs.getD k cb0 = x at *
          subst ha
          obtain ⟨xa, xap, xb, xbp, xdl, xcp⟩ := x
          simp only at c0 c1 c2 c3 c4 c5
          have OG : Hid (∀ g, u5.ownBlock = some g → w2.heap.size ≤ g) := fun g e => (own.lt g e).1
          clear hmem
          generalize endsOf (cs.take k) = xs at *
          go_wp2_with (at_builtin; refine wpList_append_own _ rfl _ _ 123 rfl w2.heap.size 124 i0 _ 2 16 Try.underlying123 hi0 hz0 hz1 hz2 rfl (by decide) _ _ _ rfl ((own.alloc _).alloc _) ⟨wr.heap.size + 1, 0, none⟩ 2 2 [.int .i64 xa, .int .i64 xap, .int .i64 xb, .int .i64 xbp] rfl rfl (World.news_of_block (cs := #[.int .i64 xa, .int .i64 xap, .int .i64 xb, .int .i64 xbp]) (t := 124) (fr := (0, 0)) (by have h := heap_alloc_new (wr.alloc (.cells #[.int .i64 xa, .int .i64 xap, .int .i64 xb, .int .i64 xbp, .int .i64 xdl, .int .i64 xcp] 47)) (.cells #[.int .i64 xa, .int .i64 xap, .int .i64 xb, .int .i64 xbp] 124); simpa using h)) ?n2 ?n3 ?n4 ?n5 ?_)
          case n2 => exact ⟨rfl, rfl, rfl, rfl⟩
          case n3 => unfold maxLen; omega
          case n4 => omega
          case n5 => first | omega | (simp; omega)
          intro v' w4 own4 gr4 _
          have R : RelV14_3 cs w2 v' (.int .i64 ((k + 1 : Nat) : Int)) w4 := by
            refine ⟨k + 1, by omega, rfl, ?_, ?_⟩
            · rw [ES.out, List.length_append, List.flatMap_append]; exact own4
            · exact ((bel.alloc bs _).alloc (by simp; omega) _).grown gr4 (by simp; omega) OG.out
          clear own4 gr4 own
          go_wp2
          exact ⟨by simpa using R, by simp [RowKit.intOf]; omega⟩
        · obtain rfl : k = cs.length := by omega
          rw [List.take_length] at own
          obtain ⟨ae, ce, hve, _, hrec, _⟩ := rec_of_own (d := ((0 : Int), (0 : Int))) cP_length (by decide) own
          rw [hve]
          have HRE := Lib.hid hrec
          have EL : (endsOf cs).length ≤ 2000000 := by rw [ends_len]; omega
          have N1 : Hid (twiceB sameName nd0 ns = false) := HT.out
          have RB : Hid (repeatsB ⟨ns, cs⟩ = twiceB samePair (0, 0) (endsOf cs)) := by rw [Hid]; unfold repeatsB; rw [show (Pl.mk ns cs).ns = ns from rfl, N1.out]; rfl
          clear hrec own hve hi0 hz0 hz1 hz2 N1 HT hkr hk
          generalize endsOf cs = es at *
          obtain ⟨w4, rfl⟩ : ∃ w4 : World, w4 = wr := ⟨_, rfl⟩
          go_wp2_with fail
          go_loopw [8] (fun i wr => RelV14_4 es w4 i wr) (fun i _ => es.length - (RowKit.intOf i).toNat)
          case atStart => exact ⟨0, Nat.zero_le _, rfl, rfl, Below.refl _ _⟩
          case round =>
            clear u0 u1 bel
            obtain ⟨k, hk, rfl, htw, bel⟩ := hrel
            have HT := Lib.hid htw
            have BE4 := Lib.hid bel
            have BF4 : Hid (Below w.heap.size w wr) := (KC.out wr (B3.out.trans (bel.mono B3.out.size))).2.2.2
            clear htw
            by_cases hkr : k < es.length
            · have TS := Lib.hid (twTo_succ samePair (0, 0) es k)
              obtain ⟨w5, rfl⟩ : ∃ w5 : World, w5 = wr := ⟨_, rfl⟩
              clear bel
              go_wp2_with fail
              go_loopw [9] (fun i wr => RelV14_5 es k w5 i wr) (fun i _ => k - (RowKit.intOf i).toNat)
              case atStart => exact ⟨0, Nat.zero_le _, rfl, rfl, Below.refl _ _⟩
              case round =>
                obtain ⟨j, hj, rfl, han, bel⟩ := hrel
                have HN := Lib.hid han
                clear han
                have B6 := Lib.hid (BE4.out.trans (bel.mono BE4.out.size))
                have BF6 := Lib.hid (BF4.out.trans (bel.mono BF4.out.size))
                by_cases hjr : j < k
                · have hjn : j < es.length := by omega
                  obtain ⟨bb, off, ha, hbb, c0, c1⟩ := pair_at (HRE.out.below (Nat.le_refl _) B6.out) k hkr
                  obtain ⟨bb2, off2, ha2, _, e0, e1⟩ := pair_at (HRE.out.below (Nat.le_refl _) B6.out) j hjn
                  rw [ha] at ha2
                  injection ha2 with ha2
                  injection ha2 with h1 h2
                  subst h1
                  subst h2
                  subst ha
                  have AS := Lib.hid (any_take_snoc (fun y => samePair y (es.getD k (0, 0))) (0, 0) es j hjn)
                  generalize hgx : es.getD k (0, 0) = x at *
                  generalize es.getD j (0, 0) = y at *
                  have HX := Lib.hid hgx
                  clear hgx
                  obtain ⟨x0, x1⟩ := x
                  obtain ⟨y0, y1⟩ := y
                  simp only at c0 c1 e0 e1
                  have i1 : (0 : Int) ≤ (k : Int) := by omega
                  have i2 : (k : Int) < (es.length : Int) := by omega
                  have i3 : (0 : Int) ≤ (j : Int) := by omega
                  have i4 : (j : Int) < (es.length : Int) := by omega
                  have heq := eqArr2 x0 x1 y0 y1
                  cases hq : (x0 == y0 && x1 == y1) with
                  | true =>
                    rw [hq] at heq
                    have FIN : Hid (repeatsB ⟨ns, cs⟩ = true) := by
                      have he1 : twTo samePair (0, 0) es (k + 1) = true := by
                        rw [TS.out]
                        have : ((es.take k).any fun z => samePair z (x0, x1)) = true := any_take_mono _ _ (k := j + 1) (by
                          rw [AS.out]
                          have h2 : samePair (y0, y1) (x0, x1) = true := by
                            unfold samePair
                            simp only [Bool.and_eq_true, beq_iff_eq] at hq ⊢
                            exact ⟨hq.1.symm, hq.2.symm⟩
                          rw [h2]; simp) (by omega)
                        rw [this]; simp
                      rw [Hid, RB.out]; unfold twiceB
                      exact twTo_mono samePair (0, 0) es (k + 1) he1 _ (by omega)
                    clear hq AS TS HT HN
                    go_wp2_with fail
                    go_quiet (fail)
                    go_wp2_with fail
                    go_ret
                    exact ⟨by rw [FIN.out]; rfl, bdrewN BF6.out _⟩
                  | false =>
                    rw [hq] at heq
                    have R : Hid (((es.take (j + 1)).any fun z => samePair z (es.getD k (0, 0))) = false) := by
                      have h2 : samePair (y0, y1) (x0, x1) = false := by
                        unfold samePair
                        rw [Bool.eq_false_iff] at hq ⊢
                        intro h3
                        simp only [Bool.and_eq_true, beq_iff_eq] at h3
                        exact hq (by simp [h3.1, h3.2])
                      rw [Hid, HX.out, AS.out, h2]
                      have := HN.out
                      rw [this]; rfl
                    clear hq AS
                    go_wp2_with fail
                    go_quiet (fail)
                    go_wp2_with fail
                    exact ⟨⟨j + 1, by omega, by simp, R.out, bdrewN bel _⟩, by simp [RowKit.intOf]; omega⟩
                · obtain rfl : j = k := by omega
                  have R : Hid (RelV14_4 es w4 (.int .i64 ((j + 1 : Nat) : Int)) wr) := ⟨j + 1, by omega, rfl, by rw [TS.out, HT.out, HN.out]; rfl, B6.out⟩
                  clear TS HT HN
                  go_wp2_with fail
                  exact ⟨by simpa using R.out, by simp [RowKit.intOf]; omega⟩
            · obtain rfl : k = es.length := by omega
              have FIN : Hid (repeatsB ⟨ns, cs⟩ = false) := by rw [Hid, RB.out]; exact HT.out
              clear HT
              go_wp2_with fail
              go_ret
              exact ⟨by rw [FIN.out]; rfl, BF4.out⟩
end Go.Proofs.Ytlhblaemoejefaa
