/- The contract of the law's own 'acyclic'. -/
import Derived.Test.YtkdgfjjljokkhaaRefLift
import Derived.Test.YtkdgfjjljokkhaaMaps
import Derived.Test.YtkdgfjjljokkhaaAcyc
namespace Go.Proofs.Ytkdgfjjljokkhaa
open Go.RowKit Go.Maps
set_option linter.unusedVariables false

theorem acycF_fuel (n : Nat) (r : List (Int × Int × Int)) (h : r.length < n) : acycF n r = acyc r := by
  have h1 : acycF n r = false ↔ acyc r = false := by
    rw [acyc_false_iff]
    exact ⟨acycF_false_to n r, fun ⟨R, hc⟩ => acycF_false_of (r := r) n r h hc⟩
  cases h2 : acycF n r <;> cases h3 : acyc r <;> simp_all
theorem acyc_step (r : List (Int × Int × Int)) (hne : r ≠ []) (hl : ¬ (keepR r).length = r.length) : acyc r = acyc (keepR r) := by
  have h := keepR_length r
  rw [← acycF_fuel r.length (keepR r) (by omega)]
  show acycF (r.length + 1) r = _
  rw [acycF, if_neg hne, if_neg hl]
theorem acyc_stop (r : List (Int × Int × Int)) (hne : r ≠ []) (hl : (keepR r).length = r.length) : acyc r = false := by
  show acycF (r.length + 1) r = _
  rw [acycF, if_neg hne, if_pos hl]
theorem acyc_nil : acyc [] = true := rfl

/-- The set of the ints l, as a map to bools. -/
def toM (l : List Int) : Lit → Option Value := fun x => if l.any (fun a => x.sameKey (.int .i64 a)) then some (.bool true) else none
theorem toM_nil : toM [] = fun _ => none := rfl
theorem toM_snoc (l : List Int) (a : Int) : putM (toM l) (.int .i64 a) (.bool true) = toM (l ++ [a]) := by
  funext x
  unfold putM toM
  rw [List.any_append]
  by_cases h : x.sameKey (.int .i64 a) = true
  · simp [h]
  · simp [h]
theorem toM_get (l : List Int) (a : Int) : (toM l (.int .i64 a)).getD (.bool false) = .bool (l.any fun b => b == a) := by
  unfold toM
  have e : (l.any fun b => (Lit.int .i64 a).sameKey (.int .i64 b)) = l.any fun b => b == a := by
    congr 1
    funext b
    simp only [Lit.sameKey, true_and]
    by_cases h : a = b
    · subst h; simp
    · have h2 : ¬ b = a := fun e => h e.symm
      simp [h, h2]
  rw [e]
  cases l.any fun b => b == a <;> rfl

def sliceLen : Value → Nat
  | .slice _ n _ => n
  | _ => 0

theorem lawInt : Keyed Try.prog 3 := int_keyed Try.underlying3
theorem zeroBool (w : World) : (zeroValue 4).run Try.prog w = .ok (.bool false) w := by kernel_rfl

/-- All channels fit an int. -/
def WfD (ds : List (Int × Int × Int)) : Prop := ∀ d ∈ ds, (Lit.int .i64 d.1).wf = true ∧ (Lit.int .i64 d.2.1).wf = true

def RelA (ds : List (Int × Int × Int)) (w : World) (v : Value) (wr : World) : Prop :=
  ∃ r a cap, v = .slice a r.length cap ∧ IsDeps wr a r.length r ∧ r.length ≤ ds.length ∧ WfD r ∧ acyc ds = acyc r ∧ Below w.heap.size w wr
/-- The channels to which the first k dependencies lead. -/
def tosTo (r : List (Int × Int × Int)) (k : Nat) : List Int := (r.take k).map fun d => d.2.1
def RelTo (r : List (Int × Int × Int)) (w1 : World) (i : Value) (wr : World) : Prop :=
  ∃ k : Nat, k ≤ r.length ∧ i = .int .i64 k ∧ OMap wr Try.prog 3 w1.heap.size k (toM (tosTo r k)) ∧ Below w1.heap.size w1 wr
/-- Those of the first k dependencies that are kept. -/
def keepTo (r : List (Int × Int × Int)) (k : Nat) : List (Int × Int × Int) := (r.take k).filter fun d => r.any fun e => e.2.1 == d.1
theorem keepTo_length (r : List (Int × Int × Int)) (k : Nat) : (keepTo r k).length ≤ k := by
  unfold keepTo
  have := List.length_filter_le (fun d => r.any fun e => e.2.1 == d.1) (r.take k)
  rw [List.length_take] at this
  omega
theorem keepTo_yes (r : List (Int × Int × Int)) (k : Nat) (h : k < r.length) (hd : (r.any fun e => e.2.1 == (r.getD k d0).1) = true) : keepTo r (k + 1) = keepTo r k ++ [r.getD k d0] := by
  unfold keepTo
  rw [take_snocD r k h, List.filter_append, List.filter_cons, if_pos hd]; rfl
theorem keepTo_no (r : List (Int × Int × Int)) (k : Nat) (h : k < r.length) (hd : (r.any fun e => e.2.1 == (r.getD k d0).1) = false) : keepTo r (k + 1) = keepTo r k := by
  unfold keepTo
  rw [take_snocD r k h, List.filter_append, List.filter_cons, if_neg (by rw [hd]; simp)]; simp
theorem keepTo_all (r : List (Int × Int × Int)) : keepTo r r.length = keepR r := by unfold keepTo keepR; rw [List.take_length]
def RelKeep (r : List (Int × Int × Int)) (w3 : World) (v i : Value) (wr : World) : Prop :=
  ∃ k : Nat, k ≤ r.length ∧ i = .int .i64 k ∧ wr.ownsRow w3.heap.size 61 3 v (keepTo r k).length ((keepTo r k).flatMap cD) ∧ Below w3.heap.size w3 wr

/-- A dependency of a slice, as the walk asks for it. -/
theorem IsDeps.at_ {w : World} {a : Option Addr} {len : Nat} {ds : List (Int × Int × Int)} (h : IsDeps w a len ds) (k : Nat) (hk : k < len) :
    ∃ b off f t n, a = some ⟨b, off, none⟩ ∧ b < w.heap.size ∧ ds.getD k d0 = (f, t, n) ∧ (f, t, n) ∈ ds ∧ w.cell? ⟨b, off + k * 3, none⟩ = some (.int .i64 f) ∧ w.cell? ⟨b, off + k * 3 + 1, none⟩ = some (.int .i64 t) ∧ w.cell? ⟨b, off + k * 3 + 1 + 1, none⟩ = some (.int .i64 n) := by
  obtain ⟨b, off, ha, hb, hc⟩ := h.2 (by omega)
  have hl : k < ds.length := by rw [h.1]; exact hk
  obtain ⟨h0, h1, h2⟩ := hc k hk
  have hm : ds.getD k d0 ∈ ds := by simp [List.getD, hl]
  generalize ds.getD k d0 = d at *
  obtain ⟨f, t, n⟩ := d
  exact ⟨b, off, f, t, n, ha, hb, rfl, hm, h0, h1, h2⟩

theorem own_empty (w : World) (e size : Nat) : (w.alloc (.cells #[] e)).ownsRow w.heap.size e size (.slice (some ⟨w.heap.size, 0, none⟩) 0 0) 0 [] := by
  refine ⟨by simp, .inr ⟨w.heap.size, 0, #[], rfl, Nat.le_refl _, heap_alloc_new w _, ?_⟩⟩
  simp

theorem reads_of_isDeps {w : World} {a : Option Addr} {len : Nat} {ds : List (Int × Int × Int)} (h : IsDeps w a len ds) : Reads w w.heap.size 3 a len (ds.flatMap cD) := by
  refine ⟨by rw [flat_length, h.1], fun h0 => ?_⟩
  obtain ⟨b, off, ha, hb, hc⟩ := h.2 h0
  refine ⟨_, ha, hb, fun j u hu => ?_⟩
  have hj : j < (ds.flatMap cD).length := by
    rcases Nat.lt_or_ge j (ds.flatMap cD).length with h | h
    · exact h
    · rw [List.getElem?_eq_none h] at hu; cases hu
  rw [flat_length] at hj
  have e : (⟨b, off, none⟩ : Addr).add j = ⟨b, off + j, none⟩ := by unfold Addr.add; split <;> simp_all
  rw [e]
  have h1 := h.1
  have fa := flat_at ds (j / 3) (by omega)
  have hcc := hc (j / 3) (by omega)
  rcases (by omega : j = j / 3 * 3 ∨ j = j / 3 * 3 + 1 ∨ j = j / 3 * 3 + 2) with hj | hj | hj
  · rw [hj] at hu ⊢; rw [fa.1] at hu; rw [← hu]; exact hcc.1
  · rw [hj] at hu ⊢; rw [fa.2.1] at hu; rw [← hu]; exact hcc.2.1
  · rw [hj] at hu ⊢; rw [fa.2.2] at hu; rw [← hu]; exact hcc.2.2

set_option maxRecDepth 100000 in
set_option maxHeartbeats 2000000 in
theorem acyclic_any (a : Option Addr) (len cap : Nat) (ds : List (Int × Int × Int)) (w : World) (hlen : len ≤ 1000000) (h : IsDeps w a len ds) (hwf : WfD ds) :
    Calls Try.prog 28 #[.slice a len cap] w fun r w' => r = .returned (.bool (acyc ds)) ∧ Below w.heap.size w w' := by
  have H := Lib.hid h
  have HW := Lib.hid hwf
  clear h hwf
  obtain ⟨i0, hi0, hz0, hz1, hz2⟩ := info_parts infoDep
  go_enter Try.func28, Try.ntmps28
  have RA := Lib.hid ((reads_of_isDeps H.out).alloc (Nat.le_refl _) (.cells #[] 61))
  have fo := Lib.hid (flat_one ds)
  go_wp2_with (at_builtin; refine wpList_append_any _ rfl (.tmp 10) (.tmp 11) 51 rfl w.heap.size 61 i0 _ 3 24 Try.underlying51 hi0 hz0 hz1 hz2 rfl (by decide) _ 0 [] rfl (own_empty w 61 3) w.heap.size a len cap (ds.flatMap cD) rfl RA.out fo.out ?c3 ?c4 ?c5 ?_)
  case c3 => unfold maxLen; omega
  case c4 => omega
  case c5 => simp
  intro v' w1 own1 gr1 _
  try simp only [Nat.zero_add, List.nil_append] at own1
  have bel1 : Below w.heap.size w w1 := ((Below.refl w.heap.size w).alloc (Nat.le_refl _) _).grown gr1 (by simp) (by intro g e; simp [Value.ownBlock] at e; omega)
  obtain ⟨a1, cap1, rfl, hd1⟩ := isDeps_of_own own1
  have hlen' := hd1.1
  clear own1 gr1 RA fo H
  subst hlen'
  have ST : Hid (RelA ds w (.slice a1 ds.length cap1) w1) := ⟨ds, a1, cap1, rfl, hd1, Nat.le_refl _, HW.out, rfl, bel1⟩
  clear hd1 bel1 HW
  go_wp2_with fail
  go_loopw [3] (fun v wr => RelA ds w v wr) (fun v _ => sliceLen v)
  case atStart => exact ST.out
  case round =>
    clear ST
    obtain ⟨r, ar, capr, rfl, hd, hrl, hwf, heq, bel⟩ := hrel
    have HD := Lib.hid hd
    have HWF := Lib.hid hwf
    have HEQ := Lib.hid heq
    obtain ⟨wo, rfl⟩ : ∃ wo : World, wo = wr := ⟨_, rfl⟩
    clear hd hwf heq
    by_cases hr0 : r.length = 0
    · have e : r = [] := List.eq_nil_of_length_eq_zero hr0
      subst e
      have fin : acyc ds = true := HEQ.out
      have FIN := Lib.hid fin
      clear fin hr0 HEQ HD HWF
      go_wp2_with fail
      go_ret
      exact ⟨by rw [FIN.out]; rfl, bel⟩
    have hr1 : 0 < r.length := by omega
    have hne : r ≠ [] := by intro e; rw [e] at hr1; simp at hr1
    have HNE := Lib.hid hne
    clear hne hr0
    have hmm := @run_makeMap Try.prog
    go_wp2_with fail
    clear hmm
    go_loopw [19] (fun i wr => RelTo r wo i wr) (fun i _ => r.length - (intOf i).toNat)
    case atStart => exact ⟨0, Nat.zero_le _, rfl, OMap.made _ _ _, (Below.refl _ _).alloc (Nat.le_refl _) _⟩
    case round =>
      obtain ⟨k, hk, rfl, om, belT⟩ := hrel
      by_cases hkr : k < r.length
      · obtain ⟨bb, off, f, t, nd, ha, hbb, hget, hmem, c0, c1, c2⟩ := (HD.out.below (Nat.le_refl _) belT).at_ k hkr
        have hwt := (HWF.out _ hmem).2
        simp only at hwt
        have TS : Hid (putM (toM (tosTo r k)) (.int .i64 t) (.bool true) = toM (tosTo r (k + 1))) := by
          have e := toM_snoc (tosTo r k) t
          have e2 : tosTo r (k + 1) = tosTo r k ++ [t] := by
            unfold tosTo
            rw [take_snocD r k hkr, List.map_append, hget]; rfl
          rw [e2]; exact e
        have HK : Hid (keyOf Try.prog 3 (.int .i64 t) = some (.int .i64 t)) := keyOf_int_mk Try.underlying3 hwt
        subst ha
        clear hget hmem hwt
        have bs := belT.size
        go_wp2_with (at_mapUpdate; refine wpList_put _ rfl _ _ _ 69 rfl 3 4 lawInt Try.underlying69 wo.heap.size k _ rfl (om.alloc _) ?d1 _ _ (.int .i64 t) rfl rfl HK.out ?_)
        case d1 => unfold maxLen; omega
        intro w2 om2 gr2
        have R : RelTo r wo (.int .i64 ((k + 1 : Nat) : Int)) w2 := by
          refine ⟨k + 1, by omega, rfl, ?_, ?_⟩
          · rw [← TS.out]; exact om2
          · exact (belT.alloc bs _).grown gr2 (by simp; omega) (by intro g e; injection e with e; omega)
        clear om2 gr2 om
        go_wp2
        exact ⟨by simpa using R, by simp [intOf]; omega⟩
      · obtain rfl : k = r.length := by omega
        have tl : tosTo r r.length = r.map fun d => d.2.1 := by unfold tosTo; rw [List.take_length]
        rw [tl] at om
        clear tl
        have HD2 := Lib.hid (HD.out.below (Nat.le_refl _) belT)
        have hlt2 : wo.heap.size < wr.heap.size := om.lt
        have OM := Lib.hid om
        clear om
        obtain ⟨w3, rfl⟩ : ∃ w3 : World, w3 = wr := ⟨_, rfl⟩
        go_wp2_with fail
        go_loopw [7, 29] (fun v i wr => RelKeep r w3 v i wr) (fun _ i _ => r.length - (intOf i).toNat)
        case atStart => exact ⟨0, Nat.zero_le _, rfl, World.ownsRow_nil _ _ _ _, Below.refl _ _⟩
        case round =>
          obtain ⟨k, hk, rfl, own, belK⟩ := hrel
          have hkl := keepTo_length r k
          by_cases hkr : k < r.length
          · obtain ⟨bb, off, f, t, nd, ha, hbb, hget, hmem, c0, c1, c2⟩ := (HD2.out.below (Nat.le_refl _) belK).at_ k hkr
            have hwt := (HWF.out _ hmem).1
            simp only at hwt
            have HK : Hid (keyOf Try.prog 3 (.int .i64 f) = some (.int .i64 f)) := keyOf_int_mk Try.underlying3 hwt
            have om := OM.out.below belK hlt2
            have tg : (toM (r.map fun d => d.2.1) (.int .i64 f)).getD (.bool false) = .bool (r.any fun e => e.2.1 == f) := by
              rw [toM_get, List.any_map]; rfl
            subst ha
            have bs := belK.size
            have og : ∀ g, u7.ownBlock = some g → w3.heap.size ≤ g := fun g e => (own.lt g e).1
            have OG := Lib.hid og
            clear og
            by_cases hin : (r.any fun e => e.2.1 == f) = true
            · have KY := Lib.hid (keepTo_yes r k hkr (by rw [hget]; exact hin))
              rw [hget] at KY
              rw [hin] at tg
              have TG := Lib.hid tg
              clear tg hin hget hmem hwt
              go_wp2_with (first | (at_lookup; refine wpList_look _ rfl _ _ 69 rfl 3 4 lawInt Try.underlying69 (.bool false) (zeroBool _) wo.heap.size _ _ rfl (om.alloc _) _ (.int .i64 f) rfl HK.out ?_; rw [TG.out]) | (at_builtin; refine wpList_append_own _ rfl _ _ 51 rfl w3.heap.size 61 i0 _ 3 24 Try.underlying51 hi0 hz0 hz1 hz2 rfl (by decide) _ _ _ rfl ((own.alloc _).alloc _) ⟨wr.heap.size + 1, 0, none⟩ 1 1 (cD (f, t, nd)) rfl rfl ?e1 ?e2 ?e3 ?e4 ?e5 ?_))
              case e1 => exact World.news_of_block (cs := #[.int .i64 f, .int .i64 t, .int .i64 nd]) (t := 61) (fr := (0, 0)) (by have h := heap_alloc_new (wr.alloc (.cells #[.int .i64 f, .int .i64 t, .int .i64 nd] 61)) (.cells #[.int .i64 f, .int .i64 t, .int .i64 nd] 61); simpa using h)
              case e2 => intro u hu; simp [cD] at hu; rcases hu with rfl | rfl | rfl <;> rfl
              case e3 => unfold maxLen; omega
              case e4 => omega
              case e5 => simp; omega
              intro v' w4 own4 gr4 _
              have R : RelKeep r w3 v' (.int .i64 ((k + 1 : Nat) : Int)) w4 := by
                refine ⟨k + 1, by omega, rfl, ?_, ?_⟩
                · rw [KY.out, List.length_append, List.flatMap_append]; simpa using own4
                · exact ((belK.alloc bs _).alloc (by simp; omega) _).grown gr4 (by simp; omega) OG.out
              clear own4 gr4 own om
              go_wp2
              exact ⟨by simpa using R, by simp [intOf]; omega⟩
            · have hin' : (r.any fun e => e.2.1 == f) = false := eq_false_of_ne_true hin
              have KY := Lib.hid (keepTo_no r k hkr (by rw [hget]; exact hin'))
              rw [hin'] at tg
              have TG := Lib.hid tg
              clear tg hin hin' hget hmem hwt
              have R : Hid (RelKeep r w3 u7 (.int .i64 ((k + 1 : Nat) : Int)) (wr.alloc (.cells #[.int .i64 f, .int .i64 t, .int .i64 nd] 61))) := by
                refine ⟨k + 1, by omega, rfl, ?_, ?_⟩
                · rw [KY.out]; exact own.alloc _
                · exact belK.alloc bs _
              clear own
              go_wp2_with (at_lookup; refine wpList_look _ rfl _ _ 69 rfl 3 4 lawInt Try.underlying69 (.bool false) (zeroBool _) wo.heap.size _ _ rfl (om.alloc _) _ (.int .i64 f) rfl HK.out ?_; rw [TG.out])
              exact ⟨by simpa using R.out, by simp [intOf]; omega⟩
          · obtain rfl : k = r.length := by omega
            rw [keepTo_all] at own
            obtain ⟨an, capn, hv, hdn⟩ := isDeps_of_own own
            rw [hv]
            have bel4 : Below w.heap.size w wr := (bel.trans (belT.mono bel.size)).trans (belK.mono (Nat.le_trans bel.size belT.size))
            have kl := keepR_length r
            by_cases hsame : (keepR r).length = r.length
            · have ST := Lib.hid (HEQ.out.trans (acyc_stop r HNE.out hsame))
              clear own hdn HEQ HD HD2 OM HNE
              generalize (keepR r).length = m at *
              subst hsame
              go_wp2_with fail
              go_ret
              exact ⟨by rw [ST.out]; rfl, bel4⟩
            · have ST := Lib.hid (HEQ.out.trans (acyc_step r HNE.out hsame))
              have WK : WfD (keepR r) := fun d hd => HWF.out d (keepR_sub r d hd)
              have R : Hid (RelA ds w (.slice an (keepR r).length capn) wr) := ⟨keepR r, an, capn, rfl, hdn, by omega, WK, ST.out, bel4⟩
              have hsm : (((keepR r).length : Int) == (r.length : Int)) = false := by rw [beq_eq_false_iff_ne]; omega
              clear own hdn HEQ HD HD2 OM HNE ST WK
              generalize (keepR r).length = m at *
              go_wp2_with fail
              exact ⟨R.out, by simp [sliceLen]; omega⟩
end Go.Proofs.Ytkdgfjjljokkhaa
