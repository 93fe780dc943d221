/- The contract of graph.repeats. -/
import Derived.Test.YtljojgpjgjfddaaGRepeats
import Derived.StringKeys
namespace Go.Proofs.Ytljojgpjgjfddaa
open Go.RowKit Go.Maps
set_option linter.unusedVariables false

theorem take_snocG {α : Type} (d : α) (l : List α) (k : Nat) (h : k < l.length) : l.take (k + 1) = l.take k ++ [l.getD k d] := by
  rw [List.take_succ_eq_append_getElem h]; simp [List.getD, h]
def nameLits (ns : List Nd) (k : Nat) : List Lit := (ns.take k).map fun x => .string x.name.data.toList
theorem nameLits_snoc (ns : List Nd) (k : Nat) (h : k < ns.length) : nameLits ns (k + 1) = nameLits ns k ++ [.string (ns.getD k nd0).name.data.toList] := by
  unfold nameLits; rw [take_snocG nd0 ns k h, List.map_append]; rfl
theorem nameLits_any (ns : List Nd) (k : Nat) (x : Nd) : ((nameLits ns k).any fun b => (Lit.string x.name.data.toList).sameKey b) = (ns.take k).any fun y => sameName y x := by
  unfold nameLits
  rw [List.any_map]
  congr 1
  funext y
  show (x.name.data.toList == y.name.data.toList) = (y.name.data.toList == x.name.data.toList)
  exact BEq.comm
def endLits (es : List (Int × Int)) (k : Nat) : List Lit := (es.take k).map pk
theorem endLits_snoc (es : List (Int × Int)) (k : Nat) (h : k < es.length) : endLits es (k + 1) = endLits es k ++ [pk (es.getD k (0, 0))] := by
  unfold endLits; rw [take_snocG (0, 0) es k h, List.map_append]; rfl
def WfE (x : Int × Int) : Prop := (Lit.int .i64 x.1).wf = true ∧ (Lit.int .i64 x.2).wf = true
theorem endLits_any (es : List (Int × Int)) (k : Nat) (x : Int × Int) (hw : ∀ y ∈ es, WfE y) (hx : WfE x) : ((endLits es k).any fun b => (pk x).sameKey b) = (es.take k).any fun y => samePair y x := by
  unfold endLits
  rw [List.any_map, Bool.eq_iff_iff, List.any_eq_true, List.any_eq_true]
  have key : ∀ y ∈ es, ((pk x).sameKey (pk y) = true ↔ samePair y x = true) := by
    intro y hy
    have h1 : ((pk x).sameKey (pk y) = true) ↔ pk x = pk y := by
      unfold pk; simp only [Lit.sameKey]; simp
    rw [h1]
    constructor
    · intro h
      have := pk_inj hx (hw y hy) h
      rw [this]; simp [samePair]
    · intro h
      simp [samePair] at h
      have : y = x := Prod.ext h.1 h.2
      rw [this]
  constructor
  · rintro ⟨y, hy, h⟩; exact ⟨y, hy, (key y (List.mem_of_mem_take hy)).1 h⟩
  · rintro ⟨y, hy, h⟩; exact ⟨y, hy, (key y (List.mem_of_mem_take hy)).2 h⟩
theorem endsOf_length (cs : List Cb) : (endsOf cs).length = 2 * cs.length := by
  unfold endsOf
  induction cs with
  | nil => rfl
  | cons x l ih => rw [List.flatMap_cons, List.length_append, ih]; simp; omega
theorem endsOf_at (cs : List Cb) (k : Nat) (h : k < cs.length) : (endsOf cs).getD (2 * k) (0, 0) = ((cs.getD k cb0).a, (cs.getD k cb0).ap) ∧ (endsOf cs).getD (2 * k + 1) (0, 0) = ((cs.getD k cb0).b, (cs.getD k cb0).bp) := by
  unfold endsOf
  induction cs generalizing k with
  | nil => simp at h
  | cons x l ih =>
    cases k with
    | zero => exact ⟨rfl, rfl⟩
    | succ k =>
      have := ih k (by simpa using h)
      rw [show 2 * (k + 1) = 2 * k + 2 by omega, show 2 * k + 2 + 1 = 2 * k + 1 + 2 by omega]
      rw [List.flatMap_cons]
      exact this
theorem endsOf_wf (cs : List Cb) (h : ∀ x ∈ cs, WfC x) : ∀ y ∈ endsOf cs, WfE y := by
  intro y hy
  unfold endsOf at hy
  rw [List.mem_flatMap] at hy
  obtain ⟨x, hx, hy⟩ := hy
  have := h x hx
  simp at hy
  rcases hy with rfl | rfl
  · exact ⟨this.1, this.2.1⟩
  · exact ⟨this.2.2.1, this.2.2.2.1⟩

theorem run_ix0 (a b c d : Value) (w : World) : (Instr.index 164 (.agg #[a, b, c, d]) (.int .i64 0)).run Try.prog w = .ok (.agg #[a, b]) w := by kernel_rfl
theorem run_ix1 (a b c d : Value) (w : World) : (Instr.index 164 (.agg #[a, b, c, d]) (.int .i64 1)).run Try.prog w = .ok (.agg #[c, d]) w := by kernel_rfl

def RelN (ns : List Nd) (w1 : World) (b : Nat) (i : Value) (wr : World) : Prop :=
  ∃ k : Nat, k ≤ ns.length ∧ i = .int .i64 k ∧ OMap wr Try.prog 9 b k (setM (nameLits ns k)) ∧ twTo sameName nd0 ns k = false ∧ Below b w1 wr
def RelE (es : List (Int × Int)) (w1 : World) (b : Nat) (e : Nat) (wr : World) : Prop :=
  OMap wr Try.prog 163 b e (setM (endLits es e)) ∧ twTo samePair (0, 0) es e = false ∧ Below b w1 wr
def RelC (cs : List Cb) (w1 : World) (b : Nat) (i : Value) (wr : World) : Prop :=
  ∃ k : Nat, k ≤ cs.length ∧ i = .int .i64 k ∧ RelE (endsOf cs) w1 b (2 * k) wr
def RelC2 (cs : List Cb) (w1 : World) (b k : Nat) (i : Value) (wr : World) : Prop :=
  ∃ j : Nat, j ≤ 2 ∧ i = .int .i64 j ∧ RelE (endsOf cs) w1 b (2 * k + j) wr

set_option maxRecDepth 100000 in
set_option maxHeartbeats 4000000 in
theorem repeats_any (p : Pl) (An Ac : Option Addr) (cn cc : Nat) (w : World) (hl : p.ns.length ≤ 1000000) (hl2 : p.cs.length ≤ 1000000) (hwf : WfP p) (h : IsPlan w An Ac p) :
    Calls Try.prog 80 #[.agg #[.slice An p.ns.length cn, .slice Ac p.cs.length cc]] w fun e w' => e = .returned (.bool (repeatsB p)) ∧ Below w.heap.size w w' := by
  obtain ⟨ns, cs⟩ := p
  simp only at hl hl2 ⊢
  have H := Lib.hid h
  have HW := Lib.hid hwf
  clear h hwf
  have hmm := @run_makeMap Try.prog
  have HB0 : Hid ((w.alloc (.cells #[.slice An ns.length cn, .slice Ac cs.length cc] 25)).cell? ⟨w.heap.size, 0, none⟩ = some (.slice An ns.length cn)) := by
    show _ = _; simp [go_sem]
  have HB1 : Hid ((w.alloc (.cells #[.slice An ns.length cn, .slice Ac cs.length cc] 25)).cell? ⟨w.heap.size, 1, none⟩ = some (.slice Ac cs.length cc)) := by
    show _ = _; simp [go_sem]
  have H1 := Lib.hid (H.out.alloc (.cells #[.slice An ns.length cn, .slice Ac cs.length cc] 25))
  have HBW : Hid (Below w.heap.size w (w.alloc (.cells #[.slice An ns.length cn, .slice Ac cs.length cc] 25))) := (Below.refl _ _).alloc (Nat.le_refl _) _
  have hsz : (w.alloc (.cells #[.slice An ns.length cn, .slice Ac cs.length cc] 25)).heap.size = w.heap.size + 1 := by simp
  clear H
  go_enter Try.func80, Try.ntmps80
  go_wp2_with fail
  clear hmm
  go_loopw [15] (fun i wr => RelN ns (w.alloc (.cells #[.slice An ns.length cn, .slice Ac cs.length cc] 25)) (w.heap.size + 1) i wr) (fun i _ => ns.length - (intOf i).toNat)
  case atStart =>
    refine ⟨0, Nat.zero_le _, rfl, ?_, rfl, ?_⟩
    · have := OMap.made (w.alloc (.cells #[.slice An ns.length cn, .slice Ac cs.length cc] 25)) Try.prog 9
      rw [hsz] at this; exact this
    · rw [← hsz]; exact (Below.refl _ _).alloc (Nat.le_refl _) _
  case round =>
    generalize w.alloc (.cells #[.slice An ns.length cn, .slice Ac cs.length cc] 25) = w1 at *
    obtain ⟨k, hk, rfl, om, htw, bel⟩ := hrel
    have HTW := Lib.hid htw
    clear htw
    have bs := bel.size
    have HP := Lib.hid (H1.out.below (by omega) bel)
    by_cases hkr : k < ns.length
    · obtain ⟨bb, off, ha, hbb, hmem, c0, c1, c2⟩ := node_at HP.out.1 k hkr
      have hwn : (ns.getD k nd0).name.size ≤ maxLen := (HW.out.1 _ hmem).1
      have NS := Lib.hid (nameLits_snoc ns k hkr)
      have NA := Lib.hid (nameLits_any ns k (ns.getD k nd0))
      have TS := Lib.hid (twTo_succ sameName nd0 ns k)
      generalize ns.getD k nd0 = x at *
      have HK : Hid (keyOf Try.prog 9 (.string x.name) = some (.string x.name.data.toList)) := WideMaps.keyOf_string_mk Try.underlying9 hwn
      subst ha
      have SG := Lib.hid (setM_get (nameLits ns k) (.string x.name.data.toList))
      cases hin : (ns.take k).any fun y => sameName y x with
      | true =>
        have TG : Hid ((setM (nameLits ns k) (.string x.name.data.toList)).getD (.bool false) = .bool true) := by
          show _ = _; rw [SG.out, NA.out, hin]
        have FIN : Hid (repeatsB ⟨ns, cs⟩ = true) := by
          show _ = _
          unfold repeatsB twiceB
          rw [twTo_mono sameName nd0 ns (k + 1) (by rw [TS.out, hin]; simp) ns.length (by omega)]; rfl
        have BW : Hid (Below w.heap.size w (wr.alloc (.cells #[.string x.name, .bool x.sw, .int .i64 x.ports] 105))) :=
          (HBW.out.trans (bel.mono (by omega))).alloc (by have := HBW.out.size; omega) _
        clear NS NA SG TS hin hmem hwn HTW HP
        go_wp2_with (at_lookup; refine wpList_look _ rfl _ _ 161 rfl 9 4 lawStr Try.underlying161 (.bool false) (zeroBool2 _) (w.heap.size + 1) _ _ rfl (om.alloc _) _ (.string x.name.data.toList) rfl HK.out ?_; rw [TG.out])
        go_ret
        exact ⟨by rw [FIN.out]; rfl, BW.out⟩
      | false =>
        have TG : Hid ((setM (nameLits ns k) (.string x.name.data.toList)).getD (.bool false) = .bool false) := by
          show _ = _; rw [SG.out, NA.out, hin]
        have TW : Hid (twTo sameName nd0 ns (k + 1) = false) := by
          show _ = _; rw [TS.out, HTW.out, hin]; rfl
        clear SG NA TS hin hmem hwn HTW HP
        go_wp2_with (first | (at_lookup; refine wpList_look _ rfl _ _ 161 rfl 9 4 lawStr Try.underlying161 (.bool false) (zeroBool2 _) (w.heap.size + 1) _ _ rfl (om.alloc _) _ (.string x.name.data.toList) rfl HK.out ?_; rw [TG.out]) | (at_mapUpdate; refine wpList_put _ rfl _ _ _ 161 rfl 9 4 lawStr Try.underlying161 (w.heap.size + 1) k _ rfl (om.alloc _) ?d1 _ _ (.string x.name.data.toList) rfl rfl HK.out ?_))
        case d1 => unfold maxLen; omega
        intro w2 om2 gr2
        have R : RelN ns w1 (w.heap.size + 1) (.int .i64 ((k + 1 : Nat) : Int)) w2 := by
          refine ⟨k + 1, by omega, rfl, ?_, TW.out, ?_⟩
          · rw [NS.out, ← setM_snoc]; exact om2
          · exact (bel.alloc (by omega) _).grown gr2 (by simp; omega) (by intro g e; injection e with e; omega)
        clear om2 gr2 om
        go_wp2
        exact ⟨by simpa using R, by simp [intOf]; omega⟩
    · obtain rfl : k = ns.length := by omega
      have d0 : wr.cell? ⟨w.heap.size, 0, none⟩ = some (.slice An ns.length cn) := by rw [bel.cell (by show w.heap.size < _; omega)]; exact HB0.out
      have d1 : wr.cell? ⟨w.heap.size, 1, none⟩ = some (.slice Ac cs.length cc) := by rw [bel.cell (by show w.heap.size < _; omega)]; exact HB1.out
      have BW := Lib.hid (HBW.out.trans (bel.mono (by omega)))
      have bw : w.heap.size < wr.heap.size := by omega
      clear HB0 HB1 H1 HBW om
      have hmm := @run_makeMap Try.prog
      obtain ⟨w2, rfl⟩ : ∃ w2 : World, w2 = wr := ⟨_, rfl⟩
      go_wp2_with fail
      clear hmm
      go_loopw [31] (fun i wr => RelC cs w2 w2.heap.size i wr) (fun i _ => cs.length - (intOf i).toNat)
      case atStart => exact ⟨0, Nat.zero_le _, rfl, OMap.made _ _ _, rfl, (Below.refl _ _).alloc (Nat.le_refl _) _⟩
      case round =>
        obtain ⟨k, hk2, rfl, om, htw, belC⟩ := hrel
        have bc := belC.size
        have HPC := Lib.hid (HP.out.below (Nat.le_refl _) belC)
        have hlt2 : w2.heap.size < wr.heap.size := om.lt
        have OM := Lib.hid om
        have HT2 := Lib.hid htw
        clear om htw
        by_cases hkc : k < cs.length
        · obtain ⟨bb, off, ha, hbb, hmem, c0, c1, c2, c3, c4, c5⟩ := cable_at HPC.out.2 k hkc
          have EL := Lib.hid (endsOf_length cs)
          have EA := Lib.hid (endsOf_at cs k hkc)
          have EW := Lib.hid (endsOf_wf cs HW.out.2)
          have WX := Lib.hid (HW.out.2 _ hmem)
          generalize cs.getD k cb0 = x at *
          subst ha
          obtain ⟨xa, xap, xb, xbp, xdl, xcp⟩ := x
          simp only at c0 c1 c2 c3 c4 c5
          have ST : Hid (RelE (endsOf cs) w2 w2.heap.size (2 * k + 0) (wr.alloc (.cells #[.int .i64 xa, .int .i64 xap, .int .i64 xb, .int .i64 xbp, .int .i64 xdl, .int .i64 xcp] 73))) :=
            ⟨OM.out.alloc _, HT2.out, belC.alloc bc _⟩
          clear OM HT2 hmem HPC
          go_wp2_with fail
          clear c0 c1 c2 c3 c4 c5
          go_loopw [46] (fun i wr => RelC2 cs w2 w2.heap.size k i wr) (fun i _ => 2 - (intOf i).toNat)
          case atStart => exact ⟨0, by omega, rfl, ST.out⟩
          case round =>
            clear ST
            obtain ⟨j, hj, rfl, om, htw, belE⟩ := hrel
            have be := belE.size
            have HTE := Lib.hid htw
            clear htw
            by_cases hj2 : j < 2
            · obtain ⟨y0, y1, hy, hyv⟩ : ∃ y0 y1, (endsOf cs).getD (2 * k + j) (0, 0) = (y0, y1) ∧ ((j = 0 ∧ y0 = xa ∧ y1 = xap) ∨ (j = 1 ∧ y0 = xb ∧ y1 = xbp)) := by
                rcases (by omega : j = 0 ∨ j = 1) with rfl | rfl
                · exact ⟨xa, xap, EA.out.1, .inl ⟨rfl, rfl, rfl⟩⟩
                · exact ⟨xb, xbp, EA.out.2, .inr ⟨rfl, rfl, rfl⟩⟩
              have wy : WfE (y0, y1) := by
                rcases hyv with ⟨_, rfl, rfl⟩ | ⟨_, rfl, rfl⟩
                · exact ⟨WX.out.1, WX.out.2.1⟩
                · exact ⟨WX.out.2.2.1, WX.out.2.2.2.1⟩
              have hle : 2 * k + j < (endsOf cs).length := by rw [EL.out]; omega
              have ES := Lib.hid (endLits_snoc (endsOf cs) (2 * k + j) hle)
              have NA := Lib.hid (endLits_any (endsOf cs) (2 * k + j) (y0, y1) EW.out wy)
              have TS := Lib.hid (twTo_succ samePair (0, 0) (endsOf cs) (2 * k + j))
              rw [hy] at ES TS
              have HK : Hid (keyOf Try.prog 163 (.agg #[.int .i64 y0, .int .i64 y1]) = some (pk (y0, y1))) := keyArr2 wy.1 wy.2
              have SG := Lib.hid (setM_get (endLits (endsOf cs) (2 * k + j)) (pk (y0, y1)))
              clear hy wy
              cases hin : ((endsOf cs).take (2 * k + j)).any fun y => samePair y (y0, y1) with
              | true =>
                have TG : Hid ((setM (endLits (endsOf cs) (2 * k + j)) (pk (y0, y1))).getD (.bool false) = .bool true) := by
                  show _ = _; rw [SG.out, NA.out, hin]
                have FIN : Hid (repeatsB ⟨ns, cs⟩ = true) := by
                  show _ = _
                  unfold repeatsB twiceB
                  simp only
                  rw [twTo_mono samePair (0, 0) (endsOf cs) (2 * k + j + 1) (by rw [TS.out, hin]; simp) (endsOf cs).length hle]; simp
                have BWE : Hid (Below w.heap.size w (wr.alloc (.cells #[.int .i64 y0, .int .i64 y1] 163))) :=
                  (BW.out.trans (belE.mono (by omega))).alloc (by omega) _
                clear ES NA SG TS hin HTE EW EL EA WX HP HW
                have ix0 := run_ix0
                have ix1 := run_ix1
                rcases hyv with ⟨rfl, rfl, rfl⟩ | ⟨rfl, rfl, rfl⟩
                all_goals
                  go_wp2_with (at_lookup; refine wpList_look _ rfl _ _ 162 rfl 163 4 lawArr2 Try.underlying162 (.bool false) (zeroBool2 _) w2.heap.size _ _ rfl (om.alloc _) _ _ rfl HK.out ?_; rw [TG.out])
                  go_ret
                  exact ⟨by rw [FIN.out]; rfl, BWE.out⟩
              | false =>
                have TG : Hid ((setM (endLits (endsOf cs) (2 * k + j)) (pk (y0, y1))).getD (.bool false) = .bool false) := by
                  show _ = _; rw [SG.out, NA.out, hin]
                have TW : Hid (twTo samePair (0, 0) (endsOf cs) (2 * k + j + 1) = false) := by
                  show _ = _; rw [TS.out, HTE.out, hin]; rfl
                clear SG NA TS hin HTE EW EL EA WX HP HW hle
                have ix0 := run_ix0
                have ix1 := run_ix1
                rcases hyv with ⟨rfl, rfl, rfl⟩ | ⟨rfl, rfl, rfl⟩
                · go_wp2_with (first | (at_lookup; refine wpList_look _ rfl _ _ 162 rfl 163 4 lawArr2 Try.underlying162 (.bool false) (zeroBool2 _) w2.heap.size _ _ rfl (om.alloc _) _ _ rfl HK.out ?_; rw [TG.out]) | (at_mapUpdate; refine wpList_put _ rfl _ _ _ 162 rfl 163 4 lawArr2 Try.underlying162 w2.heap.size (2 * k + 0) _ rfl (om.alloc _) ?d1 _ _ _ rfl rfl HK.out ?_))
                  case d1 => unfold maxLen; omega
                  intro w3 om3 gr3
                  have R : RelC2 cs w2 w2.heap.size k (.int .i64 ((0 + 1 : Nat) : Int)) w3 := by
                    refine ⟨0 + 1, by omega, rfl, ?_, TW.out, ?_⟩
                    · rw [← Nat.add_assoc, ES.out, ← setM_snoc]; exact om3
                    · exact (belE.alloc be _).grown gr3 (by simp; omega) (by intro g e; injection e with e; omega)
                  clear om3 gr3 om
                  go_wp2
                  exact ⟨by simpa using R, by simp [intOf]⟩
                · go_wp2_with (first | (at_lookup; refine wpList_look _ rfl _ _ 162 rfl 163 4 lawArr2 Try.underlying162 (.bool false) (zeroBool2 _) w2.heap.size _ _ rfl (om.alloc _) _ _ rfl HK.out ?_; rw [TG.out]) | (at_mapUpdate; refine wpList_put _ rfl _ _ _ 162 rfl 163 4 lawArr2 Try.underlying162 w2.heap.size (2 * k + 1) _ rfl (om.alloc _) ?d1 _ _ _ rfl rfl HK.out ?_))
                  case d1 => unfold maxLen; omega
                  intro w3 om3 gr3
                  have R : RelC2 cs w2 w2.heap.size k (.int .i64 ((1 + 1 : Nat) : Int)) w3 := by
                    refine ⟨1 + 1, by omega, rfl, ?_, TW.out, ?_⟩
                    · rw [← Nat.add_assoc, ES.out, ← setM_snoc]; exact om3
                    · exact (belE.alloc be _).grown gr3 (by simp; omega) (by intro g e; injection e with e; omega)
                  clear om3 gr3 om
                  go_wp2
                  exact ⟨by simpa using R, by simp [intOf]⟩
            · obtain rfl : j = 2 := by omega
              have R : Hid (RelC cs w2 w2.heap.size (.int .i64 ((k + 1 : Nat) : Int)) wr) := ⟨k + 1, by omega, rfl, om, HTE.out, belE⟩
              clear om HTE
              go_wp2
              exact ⟨by simpa using R.out, by simp [intOf]; omega⟩
        · obtain rfl : k = cs.length := by omega
          have FIN : Hid (repeatsB ⟨ns, cs⟩ = false) := by
            show _ = _
            unfold repeatsB twiceB
            simp only
            rw [endsOf_length, HT2.out, HTW.out]; rfl
          have BWE := Lib.hid (BW.out.trans (belC.mono (by omega)))
          clear HTW HT2 OM HPC HP
          go_wp2_with fail
          go_ret
          exact ⟨by rw [FIN.out]; rfl, BWE.out⟩
end Go.Proofs.Ytljojgpjgjfddaa
