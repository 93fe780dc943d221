/- Maps with dependencies as keys: what reads as a key; maps.Keys, slices.AppendSeq, slices.Collect at dependencies. -/
import Derived.Test.YtljojgpjgjfddaaGreatCBase
import Derived.RangeFuncNested
import Derived.RangeFuncBound
import Derived.RangeFuncCalls
import Derived.RangeFuncLeaves
import Derived.RangeFuncBox
import Derived.Shelf.Abstract
import Derived.Shelf.AbstractIn
import Derived.Shelf.RegionOpen
import Derived.OwnWalkIn
import Derived.TacticsInMore
import Derived.LoopNIn
import Derived.LoopIn
import Derived.RegionIn
import Derived.Sort.MapsRangeIn
import Derived.Maps.AppendAt
import Derived.DeepKeys4
namespace Go.Proofs.YtljojgpjgjfddaaGreat
open Go.RowKit Go.Maps Go.Shelf
set_option linter.unusedVariables false
attribute [local go_sem] Oper.semAt_some

theorem rowDep : (69 : TypeId) < Tryz.prog.types.size := of_decide_eq_true (by kernel_rfl)
theorem cellsDep : Tryz.prog.cellsOf 69 = 3 := by kernel_rfl
theorem deepDep : Tryz.prog.keyType 69 = true := by kernel_rfl
theorem wideDep : (match Tryz.prog.underlying 69 with | some (.array _ _) | some (.struct _) => true | _ => false) = true := by rw [Tryz.underlying69]
theorem deepDepm : Tryz.prog.keyTypeAt 2 69 = true := by kernel_rfl
set_option maxRecDepth 100000 in
theorem lawDepk : WideMaps.KeyLaw Tryz.prog 69 := deep_law_laid laidOutK (m := 2) (by omega) rowDep deepDepm wideDep
theorem lawDep : Keyed Tryz.prog 69 := Keyed.of_law lawDepk
def encDp (x : Dp) : Value := .agg #[.int .i64 x.1, .int .i64 x.2.1, .int .i64 x.2.2]
def WfDp (x : Dp) : Prop := (Lit.int .i64 x.1).wf = true ∧ (Lit.int .i64 x.2.1).wf = true ∧ (Lit.int .i64 x.2.2).wf = true
/-- The key of a dependency. -/
def pkD (x : Dp) : Lit := .string (keyBytes [.int .i64 x.1, .int .i64 x.2.1, .int .i64 x.2.2])
theorem formedDep (x : Dp) : (encDp x).formed Tryz.prog 69 = true := by simp [encDp, Value.formed, Tryz.underlying69, cellsDep]
theorem keyDep {x : Dp} (h : WfDp x) : keyOf Tryz.prog 69 (encDp x) = some (pkD x) := by
  unfold keyOf
  rw [Tryz.underlying69]
  simp only [deepDep, formedDep, Bool.and_self, if_true]
  have hs : ∃ n, Tryz.prog.types.size = n + 1 := ⟨Tryz.prog.types.size - 1, by have h : 0 < Tryz.prog.types.size := Nat.lt_of_le_of_lt (Nat.zero_le _) rowDep; omega⟩
  obtain ⟨n, hn⟩ := hs
  rw [hn]
  simp [Program.keyLits, Tryz.underlying69, Tryz.underlying3, cellsDep, cellsInt, encDp, Value.cells, h.1, h.2.1, h.2.2, pkD]
theorem encDp_inj {x y : Dp} (h : encDp x = encDp y) : x = y := by
  unfold encDp at h
  simp at h
  obtain ⟨h1, h2, h3⟩ := h
  exact Prod.ext h1 (Prod.ext h2 h3)
theorem pkD_inj {x y : Dp} (hx : WfDp x) (hy : WfDp y) (h : pkD x = pkD y) : x = y := by
  have h1 := keyDep hx
  have h2 := keyDep hy
  rw [← h] at h2
  exact encDp_inj (lawDep.inj h1 h2)
theorem pkD_key (x : Dp) : WideAt.IsKeyLit (pkD x) := trivial
/-- Block b is a map (of at most n entries) that has just the dependencies L, each with true. -/
def DSet (w : World) (b n : Nat) (L : List Dp) : Prop := L.Nodup ∧ WfD L ∧ OMap w Tryz.prog 69 b n (setM (L.map pkD))
def insD (L : List Dp) (x : Dp) : List Dp := if x ∈ L then L else L ++ [x]
def setOfD (l : List Dp) : List Dp := l.foldl insD []
theorem setOfD_snoc (l : List Dp) (x : Dp) : setOfD (l ++ [x]) = insD (setOfD l) x := by unfold setOfD; rw [List.foldl_append]; rfl
theorem mem_insD {L : List Dp} {x y : Dp} : y ∈ insD L x ↔ y ∈ L ∨ y = x := by
  unfold insD
  split
  · rename_i h
    constructor
    · exact .inl
    · rintro (h1 | rfl)
      · exact h1
      · exact h
  · simp
theorem foldl_ins (l L : List Dp) (y : Dp) : y ∈ l.foldl insD L ↔ y ∈ L ∨ y ∈ l := by
  induction l generalizing L with
  | nil => simp
  | cons x r ih => rw [List.foldl_cons, ih, mem_insD]; simp [or_assoc]
theorem mem_setOfD {l : List Dp} {y : Dp} : y ∈ setOfD l ↔ y ∈ l := by unfold setOfD; rw [foldl_ins]; simp
theorem insD_nodup {L : List Dp} {x : Dp} (h : L.Nodup) : (insD L x).Nodup := by
  unfold insD
  split
  · exact h
  · rename_i hx
    exact List.nodup_append.2 ⟨h, by simp, fun a ha b hb => by simp at hb; subst hb; exact fun e => hx (e ▸ ha)⟩
theorem fold_nodup (l L : List Dp) (h : L.Nodup) : (l.foldl insD L).Nodup := by
  induction l generalizing L with
  | nil => exact h
  | cons x r ih => exact ih _ (insD_nodup h)
theorem setOfD_nodup (l : List Dp) : (setOfD l).Nodup := fold_nodup l [] List.nodup_nil
theorem fold_len (l L : List Dp) : (l.foldl insD L).length ≤ L.length + l.length := by
  induction l generalizing L with
  | nil => simp
  | cons x r ih =>
    have h1 := ih (insD L x)
    have h2 : (insD L x).length ≤ L.length + 1 := by unfold insD; split <;> simp
    rw [List.foldl_cons, List.length_cons]; omega
theorem setOfD_len (l : List Dp) : (setOfD l).length ≤ l.length := by have := fold_len l []; simpa [setOfD] using this
theorem setM_mem {L : List Dp} {kl : Lit} (h : (setM (L.map pkD) kl).isSome = true) : ∃ x ∈ L, kl = pkD x := by
  unfold setM at h
  split at h
  · rename_i h1
    rw [List.any_eq_true] at h1
    obtain ⟨a, ha, hs⟩ := h1
    obtain ⟨x, hx, rfl⟩ := List.mem_map.1 ha
    exact ⟨x, hx, WideAt.sameKey_eq hs⟩
  · cases h
theorem setM_of {L : List Dp} {x : Dp} (h : x ∈ L) : (setM (L.map pkD) (pkD x)).isSome = true := by
  unfold setM
  rw [if_pos]; rfl
  rw [List.any_eq_true]
  exact ⟨pkD x, List.mem_map.2 ⟨x, h, rfl⟩, WideAt.sameKey_self (pkD_key x)⟩
theorem DSet.put {w w' : World} {b n m : Nat} {L : List Dp} {x : Dp} (h : DSet w b n L) (hx : WfDp x) (h2 : OMap w' Tryz.prog 69 b m (putM (setM (L.map pkD)) (pkD x) (.bool true))) : DSet w' b m (insD L x) := by
  refine ⟨insD_nodup h.1, fun y hy => ?_, ?_⟩
  · rcases mem_insD.1 hy with h1 | rfl
    · exact h.2.1 y h1
    · exact hx
  · unfold insD
    by_cases e : x ∈ L
    · rw [if_pos e]
      refine h2.congr fun l => ?_
      unfold putM
      by_cases hs : l.sameKey (pkD x) = true
      · rw [if_pos hs, WideAt.sameKey_eq hs]
        have := setM_of e
        unfold setM at this ⊢
        split
        · rfl
        · rename_i hn; rw [if_neg hn] at this; cases this
      · rw [if_neg hs]
    · rw [if_neg e, List.map_append, List.map_cons, List.map_nil]
      rw [setM_snoc] at h2
      exact h2
theorem DSet.made (w : World) : DSet (w.alloc (.map #[] 0)) w.heap.size 0 [] := ⟨List.nodup_nil, (by intro d hd; cases hd), OMap.made w Tryz.prog 69⟩
theorem DSet.alloc {w : World} {b n : Nat} {L : List Dp} (h : DSet w b n L) (o : Obj) : DSet (w.alloc o) b n L := ⟨h.1, h.2.1, h.2.2.alloc o⟩
theorem DSet.below {w w' : World} {B b n : Nat} {L : List Dp} (h : DSet w b n L) (hb : Below B w w') (hlt : b < B) : DSet w' b n L := ⟨h.1, h.2.1, h.2.2.below hb hlt⟩
theorem DSet.lt {w : World} {b n : Nat} {L : List Dp} (h : DSet w b n L) : b < w.heap.size := h.2.2.lt
theorem size_le {w : World} {b n : Nat} {L : List Dp} {D : DataW Value} (h : w.ownsMap Tryz.prog 69 anyElem b n D) (hh : ∀ l, Maps.has D l = (setM (L.map pkD) l).isSome) : Maps.size D ≤ L.length := by
  obtain ⟨es, rfl, hpw, hk⟩ := h.entries lawDep
  have hnd : (es.map (·.1)).Nodup := List.pairwise_map.2 hpw
  have hsub : (es.map (·.1)).Subset (L.map pkD) := by
    intro l hl
    obtain ⟨p, hp, rfl⟩ := List.mem_map.1 hl
    have h1 : Maps.has (.map es) p.1 = true := by rw [has_eq, List.any_eq_true]; exact ⟨p, hp, WideAt.sameKey_self (hk p hp)⟩
    rw [hh] at h1
    obtain ⟨x, hx, e⟩ := setM_mem h1
    rw [e]; exact List.mem_map.2 ⟨x, hx, rfl⟩
  have := List.Nodup.length_le_of_subset hnd hsub
  rw [List.length_map, List.length_map] at this
  rw [size_eq]; exact this
/-- What has come so far. -/
def CollD (L : List Dp) (left : Lit → Bool) (ss : List Dp) : Prop := ss.Nodup ∧ ∀ x, x ∈ ss ↔ (x ∈ L ∧ left (pkD x) = false)
theorem CollD.start (L : List Dp) (left : Lit → Bool) (h : ∀ x ∈ L, left (pkD x) = true) : CollD L left [] :=
  ⟨List.nodup_nil, fun x => by constructor; · intro h; cases h
                               · rintro ⟨h1, h2⟩; rw [h x h1] at h2; cases h2⟩
theorem CollD.step {L : List Dp} {left : Lit → Bool} {ss : List Dp} (h : CollD L left ss) (hw : WfD L) {x : Dp} (hx : x ∈ L) (hl : left (pkD x) = true) : CollD L (fun z => left z && !z.sameKey (pkD x)) (ss ++ [x]) := by
  have hnew : x ∉ ss := fun hm => by have := ((h.2 x).1 hm).2; rw [hl] at this; cases this
  refine ⟨List.nodup_append.2 ⟨h.1, by simp, fun a ha b hb => by simp at hb; subst hb; exact fun e => hnew (e ▸ ha)⟩, fun y => ?_⟩
  by_cases hy : y = x
  · subst hy; simp [hx, WideAt.sameKey_self (pkD_key y)]
  · rw [List.mem_append, h.2 y]
    simp only [List.mem_singleton, hy, or_false, Bool.and_eq_false_iff, Bool.not_eq_false']
    constructor
    · rintro ⟨h1, h2⟩; exact ⟨h1, .inl h2⟩
    · rintro ⟨h1, h2 | h2⟩
      · exact ⟨h1, h2⟩
      · exact absurd (pkD_inj (hw y h1) (hw x hx) (WideAt.sameKey_eq h2)) hy
theorem CollD.perm {L : List Dp} {left : Lit → Bool} {ss : List Dp} (h : CollD L left ss) (hn : L.Nodup) (hl : ∀ kl, left kl = false) : ss.Perm L :=
  (List.perm_ext_iff_of_nodup h.1 hn).2 fun x => by rw [h.2 x, hl]; simp

set_option maxRecDepth 100000 in
set_option maxHeartbeats 2000000 in
/-- maps.Keys(m) hands back a value that gives the keys, each once, in some order. -/
theorem keysD_stops (n : Nat) (hn : 1 ≤ n) (Bm b nn : Nat) (L : List Dp) (w : World) (hBm : Bm < w.heap.size) (hm : w.cell? ⟨Bm, 0, none⟩ = some (.map (some b))) (hS : DSet w b nn L) :
    SeqStops Fence.wide n Tryz.prog 92 #[.pointer (some ⟨Bm, 0, none⟩)] encDp (fun ss => ss.Perm L) (fun _ => True) L.length w := fun l J Jx W hW hJ _ hY h0 => by
  obtain ⟨hnd, hwf, D, hown, hD⟩ := hS
  have hown' : W.ownsMap Tryz.prog 69 anyElem b nn D := by
    have hbl := hown.lt
    obtain ⟨es, clock, hb, Ft, hs, hD⟩ := hown
    exact ⟨es, clock, (hW.block b hbl).trans hb, Ft, hs, hD⟩
  have hsz := size_le hown' (fun l => (hD l).1)
  have hmW : W.cell? ⟨Bm, 0, none⟩ = some (.map (some b)) := (hW.cell (p := ⟨Bm, 0, none⟩) hBm).trans hm
  have HD := Lib.hid hD
  have HWF := Lib.hid hwf
  have HND := Lib.hid hnd
  have HY := Lib.hid hY
  have HJ := Lib.hid hJ
  clear hD hwf hnd hown hm hY hJ
  refine callsIn_of_wp Tryz.func92 rfl trivial ?_ rfl
  simp only [Tryz.ntmps92, List.size_toArray, List.length_cons, List.length_nil, Nat.reduceAdd, Nat.reduceSub, Array.replicate_succ, Array.replicate_zero, List.push_toArray, List.append_toArray, List.nil_append, List.cons_append]
  gi_wp2_with (first
    | (gi_at_range; refine wpListIn_range_own _ rfl _ 93 rfl 69 4 lawDep Tryz.underlying93 _ b nn _ rfl hown' ?_; intro w0 hrg0 hg0 hs0)
    | gi_in)
  go_frame
  gi_loopw [3] (fun _ wr => ∃ (left : Lit → Bool) (cnt : Nat) (ss : List Dp), wr.ranges Tryz.prog 69 anyElem b W.heap.size nn D left cnt ∧ ss.length + cnt ≤ L.length ∧ CollD L left ss ∧ J ss wr)
    (fun _ wr => wr.rangeLeft b W.heap.size)
  case atStart =>
    exact ⟨_, _, [], hrg0, by simp; exact hsz, CollD.start L _ (fun x hx => by rw [(HD.out _).1]; exact setM_of hx), HJ.out [] W w0 none h0 hg0 (fun r e => by cases e)⟩
  case round =>
    obtain ⟨left, cnt, ss, hrg, hcs, hC, hJs⟩ := hrel
    clear hrg0 hg0 hs0 h0 hmW
    gi_wp2_with (first
      | (gi_at_next; refine wpListIn_next_ranges _ rfl _ rfl 69 lawDep anyElem id id (fun key kl hk => ⟨key, rfl⟩) (fun v _ _ => ⟨v, rfl⟩) b W.heap.size nn _ _ _ rfl hrg ?_ ?_)
      | gi_in)
    · intro hc0 hl0
      gi_wp2
      go_end0
      exact ⟨⟨_, rfl⟩, .inl ⟨ss, hC.perm HND.out hl0, hJs⟩⟩
    · intro key c kl yd yp w2 cnt2 hkey hlk hv hat hrg2 hlt hg2 hs2 hen
      have hhas : Maps.has D kl = true := has_true_of_atKey hat
      rw [(HD.out kl).1] at hhas
      obtain ⟨x, hx, rfl⟩ := setM_mem hhas
      obtain rfl : key = encDp x := lawDep.inj hkey (keyDep (HWF.out x hx))
      have hJ2 : J ss w2 := HJ.out ss wr w2 (some W.heap.size) hJs hg2 (fun r e => by cases e; exact ⟨Nat.le_refl _, hrg.iter_walk⟩)
      have hJ3 : J ss (w2.alloc (.cells #[.int .i64 x.1, .int .i64 x.2.1, .int .i64 x.2.2] 69)) := HJ.out ss w2 _ none hJ2 (World.grownBy_alloc w2 _ none) (fun r e => by cases e)
      obtain ⟨fn, tmps, assign, body, hy, hR⟩ := HY.out ss x _ hJ3 (by omega)
      have hC2 := Lib.hid (hC.step HWF.out hx hlk)
      have HR := Lib.hid hR
      have HRG := Lib.hid hrg
      have HRG2 := Lib.hid hrg2
      have hen' : (Instr.entry (.pointer (some ⟨W.heap.size, 0, none⟩))).run Tryz.prog w2 = .ok (.tuple #[.agg #[.int .i64 x.1, .int .i64 x.2.1, .int .i64 x.2.2], c]) w2 := hen
      unfold encDp at hy
      clear hs2 hR hrg hrg2 hC hhas hat hv hkey hlk hJ2 hJ3 hJs hen hg2
      unfold encDp
      obtain ⟨x0, x1, x2⟩ := x
      simp only at hy hen' ⊢
      gi_wp2
      refine HR.out.mono ?_
      rintro e W3 (⟨rfl, hJ3, hk3⟩ | ⟨rfl, hJx3⟩)
      · have hrg3 := Lib.hid ((HRG2.out.alloc _).of_walks hk3)
        clear hk3
        gi_wp2
        go_roundw
        case rel => exact ⟨_, cnt2, ss ++ [(x0, x1, x2)], hrg3.out, by simp; omega, hC2.out, hJ3⟩
        case measure => rw [hrg3.out.left_eq, HRG.out.left_eq]; exact hlt
      · gi_wp2
        refine bodyPost_ret (results_none rfl _ _ _) rfl ?_
        exact ⟨⟨_, rfl⟩, .inr ⟨ss ++ [(x0, x1, x2)], trivial, hJx3⟩⟩

theorem blk_own (Bx : Nat) (t : TypeId) (cs : Array Value) : Own (fun (_ : Unit) W => Blk W Bx t cs) := fun _ A B row h hg hr => by
  refine h.grown hg fun e => ?_
  obtain ⟨o, ho, hc⟩ := hr Bx e.symm
  unfold Blk at h
  rw [h] at ho
  cases ho
  cases hc
theorem ne_deps : (39 : TypeId) ≠ 69 := by decide
set_option maxRecDepth 100000 in
set_option maxHeartbeats 2000000 in
/-- slices.AppendSeq(nil, seq) at dependencies. -/
theorem appSeqD_in (n : Nat) (hn : 2 ≤ n) (g : Nat) (lb : Array Value) (eg : ∀ args w, (callFunc g args).run Tryz.prog w = .ok (.enter g args) w) (S Sp : List Dp → Prop) (N : Nat) (hN : N ≤ 1000000) (w : World)
    (hseq : SeqStops Fence.wide (n - 1) Tryz.prog g lb encDp S Sp N w) :
    CallsIn Fence.wide n Tryz.prog 122 #[.slice none 0 0, .func (.func g) #[] lb] w fun e w' => ∃ (v : Value) (ss : List Dp), e = .returned v ∧ S ss ∧ w'.ownsRow w.heap.size 69 3 v ss.length (ss.flatMap cD) ∧ Below w.heap.size w w' := by
  have h1 : 1 ≤ n := by omega
  obtain ⟨i0, hi0, hz0, hz1, hz2⟩ := info_parts infoDep
  refine callsIn_of_wp_marks Tryz.func122 rfl trivial ?_ rfl
  simp only [Tryz.ntmps122, List.size_toArray, List.length_cons, List.length_nil, Nat.reduceAdd, Nat.reduceSub, Array.replicate_succ, Array.replicate_zero, List.push_toArray, List.append_toArray, List.nil_append, List.cons_append]
  gi_wp2
  obtain ⟨W0, hW0⟩ : ∃ W0, w.alloc (.cells #[.slice none 0 0] 39) = W0 := ⟨_, rfl⟩
  have hs0 : W0.heap.size = w.heap.size + 1 := by rw [← hW0]; simp
  have hB0 : Boxed W0 w.heap.size 39 (.slice none 0 0) := by rw [← hW0]; exact Boxed.new _ _ _
  have hBW : Below w.heap.size w W0 := by rw [← hW0]; exact (Below.refl _ w).alloc (Nat.le_refl _) _
  rw [hW0]
  refine wpIn_rangeFunc_ownH rfl h1 (gf := g) (lb := lb) rfl trivial eg hseq walksK_t walksK_b hBW (fun _ => rfl)
    (fun pre W => (∃ v, Boxed W w.heap.size 39 v ∧ W.ownsRow w.heap.size 69 3 v pre.length (pre.flatMap cD) ∧ True) ∧ Below w.heap.size w W)
    (fun _ _ _ => False)
    (OwnFrom.and (Own.from (holdsRow_own w.heap.size w.heap.size 39 69 3 (fun pre : List Dp => pre.length) (fun pre => pre.flatMap cD) (fun _ _ => True)) _) (ownFrom_below (Nat.le_refl _) (by omega)))
    (fun c => fun _ _ _ _ h _ _ => h.elim)
    ⟨⟨_, hB0, World.ownsRow_nil _ _ _ _, trivial⟩, hBW⟩
    (fun x a' W => ∃ Bx, w.heap.size < Bx ∧ Blk W Bx 69 #[.int .i64 x.1, .int .i64 x.2.1, .int .i64 x.2.2] ∧
      a' = { tmps := #[.slice none 0 0, .func (.func g) #[] lb, .pointer (some ⟨w.heap.size, 0, none⟩), undef, .slice none 0 0, .pointer (some ⟨Bx, 0, none⟩), .func (.func g) #[] lb, encDp x, undef, undef, undef, undef, undef], defers := [] })
    (fun x a' => fun s A B row h hg hr => by
      obtain ⟨Bx, h1, h2, h3⟩ := h
      exact ⟨Bx, h1, blk_own Bx 69 _ () A B row h2 hg (fun r e => (hr r e).2), h3⟩) ?assign ?body ?done ?stop
  case assign =>
    rintro l pre x W K ⟨⟨v, bv, own, _⟩, hB⟩ hK
    obtain ⟨x0, x1, x2⟩ := x
    unfold encDp
    gi_wp2
    refine hK _ _ ((KeepsOthers.alloc _ _).from _) (KeepsWalks.alloc _ _) ⟨⟨v, bv.alloc _, own.alloc _, trivial⟩, hB.alloc hB.size _⟩ ⟨W.heap.size, by have := bv.lt; omega, Blk.new _ _ _, rfl⟩
  case body =>
    rintro l pre x a' W hl ⟨r, hr⟩ ⟨⟨v, bv, own, _⟩, hB⟩ ⟨Bx, hBx, bX, rfl⟩ hlt
    obtain ⟨x0, x1, x2⟩ := x
    have hc := bv.cell
    have c0 := bX.cell 0
    have c1 := bX.cell 1
    have c2 := bX.cell 2
    simp at c0 c1 c2
    unfold encDp
    have bs := hB.size
    gi_wp2_with (first
      | (gi_at_builtin; refine wpListIn_append_own _ rfl _ _ 39 rfl w.heap.size 69 i0 _ 3 24 Tryz.underlying39 hi0 hz0 hz1 hz2 rfl (by decide) _ _ _ rfl (own.alloc _) ⟨W.heap.size, 0, none⟩ 1 1 (cD (x0, x1, x2)) rfl rfl ?e1 ?e2 ?e3 ?e4 ?e5 ?_; rotate_right; intro v' w1 hown' hgrow _; obtain ⟨g', cap', rfl⟩ := ownsRow_succ hown'; obtain ⟨hv1, hv2, hr2, hk2, hb2⟩ := bv.appended ne_deps own hB.size (Nat.le_refl _) hown' hgrow; have hc1 := hv1.cell; have hf1 := hv1.frozen)
      | gi_in)
    · exact ⟨hk2.from _, hk2.walks, ⟨⟨_, hv2, by rw [List.length_append, List.flatMap_append]; exact hr2⟩, hB.trans hb2⟩⟩
    case e1 => intro j u hu; exact hu
    case e2 => intro u hu; simp [cD] at hu; rcases hu with rfl | rfl | rfl <;> rfl
    case e3 => unfold maxLen; omega
    case e4 => omega
    case e5 => first | omega | (simp; omega)
  case done =>
    rintro D xs W hD hSx ⟨⟨v, bv, own, _⟩, hB⟩ hK
    have hc := bv.cell
    gi_wp2
    refine ⟨by simp, .inl ⟨_, _, rfl, run_takeDeferred hK, ?_⟩⟩
    exact ⟨_, results_tmp rfl _ _ _, v, xs, rfl, hSx, ownsRow_putObj own _ hK rfl, hB.trans (belowK_b (w := w) (Nat.le_refl _) W D _ _ (by omega) hK rfl rfl)⟩
  case stop =>
    rintro D c pre W hD _ hF _
    exact hF.elim

/-- slices.Collect(maps.Keys(m)). -/
theorem collectD_any (Bm b nn : Nat) (L : List Dp) (w : World) (hl : L.length ≤ 1000000) (hBm : Bm < w.heap.size) (hm : w.cell? ⟨Bm, 0, none⟩ = some (.map (some b))) (hS : DSet w b nn L) :
    Calls Tryz.prog 91 #[.func (.func 92) #[] #[.pointer (some ⟨Bm, 0, none⟩)]] w fun e w' => ∃ (v : Value) (ss : List Dp), e = .returned v ∧ ss.Perm L ∧ w'.ownsRow w.heap.size 69 3 v ss.length (ss.flatMap cD) ∧ Below w.heap.size w w' := by
  have hcon := Lib.hid ((callsIn_wide (n := 5)).1 (appSeqD_in 5 (by omega) 92 _ (enters_of Tryz.func92 (by kernel_rfl) rfl) (fun ss => ss.Perm L) (fun _ => True) L.length hl w (keysD_stops 4 (by omega) Bm b nn L w hBm hm hS)))
  clear hm hS
  go_enter Tryz.func91, Tryz.ntmps91
  go_wp2_with fail
  refine hcon.out.mono ?_
  rintro e w' ⟨v, ss, rfl, hS, hrow, hb⟩
  have F := Lib.hid (show ∃ (v' : Value) (ss : List Dp), Ending.returned v = .returned v' ∧ ss.Perm L ∧ w'.ownsRow w.heap.size 69 3 v' ss.length (ss.flatMap cD) ∧ Below w.heap.size w w' from ⟨v, ss, rfl, hS, hrow, hb⟩)
  clear hrow hb
  go_wp2_with fail
  go_ret
  exact F.out
theorem keysD_any (m : Option Nat) (w : World) :
    Calls Tryz.prog 41 #[.map m] w fun e w' => e = .returned (.func (.func 92) #[] #[.pointer (some ⟨w.heap.size, 0, none⟩)]) ∧ w.alloc (.cells #[.map m] 93) = w' := by
  go_enter Tryz.func41, Tryz.ntmps41
  go_wp2_with fail
  go_ret
  exact ⟨rfl, rfl⟩
end Go.Proofs.YtljojgpjgjfddaaGreat
