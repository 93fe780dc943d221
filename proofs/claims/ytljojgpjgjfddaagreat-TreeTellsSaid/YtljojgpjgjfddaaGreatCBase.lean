/- Generic words and contracts for the Channel and Tree texts (written by gen_cbase.py out of the Local texts): dependencies, ints, rows of records that the call writes. -/
import Derived.Test.YtljojgpjgjfddaaGreatGValid
import Derived.Test.YtljojgpjgjfddaaGreatIMap
import Derived.Deep.QuietTactic
import Derived.BigQuiet
import Derived.BigRegion
import Derived.Deep.RegionLaw
import Derived.Deep.RegionHeld3
import Derived.LoopTactic
import Derived.IntWalk
import Derived.Maps.RangeWalk
namespace Go.Proofs.YtljojgpjgjfddaaGreat
open Go.RowKit Go.Maps
set_option linter.unusedVariables false

abbrev Dp := Int × Int × Int
def d0 : Dp := (0, 0, 0)
def cD (d : Dp) : List Value := [.int .i64 d.1, .int .i64 d.2.1, .int .i64 d.2.2]
def chEnds (cs : List Cb) (c : Int) : Int × Int :=
  if c % 2 = 0 then ((cs.getD (c / 2).toNat cb0).a, (cs.getD (c / 2).toNat cb0).b) else ((cs.getD (c / 2).toNat cb0).b, (cs.getD (c / 2).toNat cb0).a)
def isNodeB (ns : List Nd) (node : Int) : Bool := decide (0 ≤ node) && decide (node < ns.length)
def existsB (cs : List Cb) (c : Int) : Bool := decide (0 ≤ c) && decide (c < 2 * cs.length)
theorem below_drewN {B : Nat} {a w : World} (h : Below B a w) (n : Nat) : Below B a (w.drewN n) := ⟨h.os, h.tape, h.output, h.size, h.block⟩
/-- The cell of an int. -/
def cI (n : Int) : List Value := [.int .i64 n]
theorem cI_length (n : Int) : (cI n).length = 1 := rfl
theorem cI_one (l : List Int) : ∀ u ∈ l.flatMap cI, u.oneCell' = true := by
  intro u hu
  rw [List.mem_flatMap] at hu
  obtain ⟨d, _, hd⟩ := hu
  simp only [cI, List.mem_cons, List.not_mem_nil, or_false] at hd
  subst hd; rfl
theorem cI_map (l : List Int) : l.flatMap cI = l.map (Value.int .i64) := by
  induction l with
  | nil => rfl
  | cons x l ih => rw [List.flatMap_cons, ih]; rfl
theorem infoInt : (Tryz.prog.info? 3).map (fun i => (i.zero, i.size, i.bytes)) = some (some (.int .i64 0), 1, 8) := by kernel_rfl
/-- A new slice with the ints l is returned; nothing old has changed. -/
def IntsPost (l : List Int) (w : World) (e : Ending) (w' : World) : Prop :=
  ∃ v, e = .returned v ∧ w'.ownsRow w.heap.size 3 1 v l.length (l.flatMap cI) ∧ Below w.heap.size w w'
theorem pair_idx {m i j i' j' : Nat} (hj : j < m) (hj' : j' < m) (h : i * m + j = i' * m + j') : i = i' ∧ j = j' := by
  have h1 : (i * m + j) / m = i := by rw [Nat.mul_comm, Nat.mul_add_div (by omega)]; simp [Nat.div_eq_of_lt hj]
  have h2 : (i' * m + j') / m = i' := by rw [Nat.mul_comm, Nat.mul_add_div (by omega)]; simp [Nat.div_eq_of_lt hj']
  have e : i = i' := by rw [← h1, ← h2, h]
  subst e
  exact ⟨rfl, by omega⟩
theorem idx_lt {m n i j : Nat} (hi : i < n) (hj : j < m) : i * m + j < n * m := by
  have h1 : i * m + j < (i + 1) * m := by rw [Nat.add_mul]; omega
  exact Nat.lt_of_lt_of_le h1 (Nat.mul_le_mul_right m hi)

/-- Block g is a row of n records of m cells; record i has the cells c i. -/
def RBlk (w : World) (g : Nat) (t : TypeId) (m n : Nat) (c : Nat → List Value) : Prop :=
  ∃ arr, Blk w g t arr ∧ arr.size = n * m ∧ ∀ i j, i < n → j < m → arr[i * m + j]? = (c i)[j]?
def setR (c : Nat → List Value) (i j : Nat) (v : Value) : Nat → List Value := fun x => if x = i then (c i).set j v else c x

section
variable {w w' : World} {g : Nat} {t : TypeId} {m n : Nat} {c : Nat → List Value}
theorem RBlk.lt (h : RBlk w g t m n c) : g < w.heap.size := by obtain ⟨arr, h, _⟩ := h; exact h.lt
theorem RBlk.cell (h : RBlk w g t m n c) {i j : Nat} (hi : i < n) (hj : j < m) : w.cell? ⟨g, i * m + j, none⟩ = (c i)[j]? := by
  obtain ⟨arr, h, hs, hc⟩ := h
  rw [h.cell, hc i j hi hj]
theorem RBlk.frozen (h : RBlk w g t m n c) (i : Nat) : w.frozen? ⟨g, i, none⟩ = false := by obtain ⟨arr, h, _⟩ := h; exact h.frozen i
theorem RBlk.drew (h : RBlk w g t m n c) : RBlk w.drew g t m n c := h
theorem RBlk.drewN (h : RBlk w g t m n c) (q : Nat) : RBlk (w.drewN q) g t m n c := h
theorem RBlk.alloc (h : RBlk w g t m n c) (o : Obj) : RBlk (w.alloc o) g t m n c := by obtain ⟨arr, h, r⟩ := h; exact ⟨arr, h.alloc o, r⟩
theorem RBlk.far (h : RBlk w g t m n c) {p : Addr} (hp : g ≠ p.block) (u : Value) : RBlk (w.setCell p u) g t m n c := by obtain ⟨arr, h, r⟩ := h; exact ⟨arr, h.far hp u, r⟩
theorem RBlk.below {B : Nat} (h : RBlk w g t m n c) (hb : Below B w w') (hg : g < B) : RBlk w' g t m n c := by obtain ⟨arr, h, r⟩ := h; exact ⟨arr, h.below hb hg, r⟩
theorem RBlk.grown {row : Option Nat} (h : RBlk w g t m n c) (hb : w.grownBy w' row) (hg : some g ≠ row) : RBlk w' g t m n c := by obtain ⟨arr, h, r⟩ := h; exact ⟨arr, h.grown hb hg, r⟩
theorem RBlk.congr {c' : Nat → List Value} (h : RBlk w g t m n c) (e : ∀ i, i < n → c i = c' i) : RBlk w g t m n c' := by
  obtain ⟨arr, h, hs, hc⟩ := h; exact ⟨arr, h, hs, fun i j hi hj => by rw [← e i hi]; exact hc i j hi hj⟩
theorem RBlk.set_ (h : RBlk w g t m n c) {i j : Nat} (hi : i < n) (hj : j < m) (v : Value) : RBlk (w.setCell ⟨g, i * m + j, none⟩ v) g t m n (setR c i j v) := by
  obtain ⟨arr, h, hs, hc⟩ := h
  have hlt := idx_lt hi hj
  refine ⟨_, h.set_ _ v, by simpa using hs, fun i' j' hi' hj' => ?_⟩
  have h0 := hc i j hi hj
  have hjl : j < (c i).length := by
    rcases Nat.lt_or_ge j (c i).length with h | h
    · exact h
    · rw [List.getElem?_eq_none h, Array.getElem?_eq_none_iff] at h0; omega
  unfold setR
  rw [Array.getElem?_setIfInBounds]
  by_cases e : i * m + j = i' * m + j'
  · obtain ⟨rfl, rfl⟩ := pair_idx hj hj' e
    rw [if_pos rfl, if_pos (by omega), if_pos rfl, List.getElem?_set_self hjl]
  · rw [if_neg e, hc i' j' hi' hj']
    by_cases e2 : i' = i
    · subst e2
      have : j ≠ j' := fun e3 => e (by rw [e3])
      rw [if_pos rfl, List.getElem?_set_ne this]
    · rw [if_neg e2]
theorem RBlk.of_own {base cap : Nat} {z : Array Value} (hz : z.size = m) (hm : 0 < m) (h : w.ownsRow base t m (.slice (some ⟨g, 0, none⟩) n n) n (madeCells z (n * m)).toList) : RBlk w g t m n (fun _ => z.toList) := by
  rcases h.2 with ⟨h1, _⟩ | ⟨g', cap, cur, hv, hb, hg, _, _, hs, ht⟩
  · cases h1
  · simp only [Value.slice.injEq, Option.some.injEq, Addr.mk.injEq, and_true, true_and] at hv
    obtain ⟨rfl, rfl⟩ := hv
    refine ⟨cur, hg, hs, fun i j hi hj => ?_⟩
    have hlt := idx_lt hi hj
    have e1 : cur.toList = (madeCells z (n * m)).toList := by rw [← ht, List.take_of_length_le (by simp; omega)]
    have e2 : cur = madeCells z (n * m) := by cases cur; cases hq : madeCells z (n * m); rw [hq] at e1; simp at e1; rw [e1]
    rw [e2]
    unfold madeCells
    rw [Array.getElem?_map, Array.getElem?_range, if_pos hlt]
    have hmod : (i * m + j) % z.size = j := by rw [hz, Nat.add_comm, Nat.mul_comm, Nat.add_mul_mod_self_left, Nat.mod_eq_of_lt hj]
    simp only [Option.map_some, hmod]
    rw [Array.getElem?_toList, getElem!_pos z j (by omega), Array.getElem?_eq_getElem (by omega)]
/-- A row of records reads as a list. -/
theorem RBlk.isRec {α : Type} {cc : α → List Value} {d : α} {xs : List α} (h : RBlk w g t m n c) (hl : xs.length = n) (e : ∀ i, i < n → c i = cc (xs.getD i d)) : IsRec m cc d w (some ⟨g, 0, none⟩) n xs :=
  ⟨hl, fun h0 => ⟨g, 0, rfl, h.lt, fun i j hi hj => by rw [Nat.zero_add, h.cell hi hj, e i hi]⟩⟩
end

section
variable {P : Program} (w : World) {ops : Array Oper} {rest : List Oper} {o : Oper} {a : Act} {K : Act → World → Prop} {Q : Exit → Act → World → Prop} {E' : Prop}
/-- 'm[k] = v' at ints. -/
theorem wp_putI (m x v : Operand) (t : TypeId) (hop : o.op = Op.mapUpdate t m x v)
    (k e : TypeId) (hk : P.underlying k = some (.int .i64)) (he : P.underlying e = some (.int .i64)) (ht : P.underlying t = some (.map k e)) (b : Nat) (E : Ens)
    (hm : a.eval m = .map (some b)) (hown : IMap P k e w b E) (hn : E.length < maxLen) (key val : Int) (hx : a.eval x = .int .i64 key) (hv : a.eval v = .int .i64 val) (wk : (Lit.int .i64 key).wf = true) (wv : (Lit.int .i64 val).wf = true)
    (hK : ∀ w', IMap P k e w' b (putE E key val) → w.grownBy w' (some b) → K (a.put o.dst undef) w') : o.wp P a w K Q := by
  obtain ⟨w', hrun, r1, r2⟩ := hown.store hk he ht hn wk wv
  unfold Oper.wp
  simp [execOp, hop, hm, hx, hv, hrun, Result.andThen]
  exact hK w' r1 r2
theorem step_putI (hgd : o.guard = none) (m x v : Operand) (t : TypeId) (hop : o.op = Op.mapUpdate t m x v)
    (k e : TypeId) (hk : P.underlying k = some (.int .i64)) (he : P.underlying e = some (.int .i64)) (ht : P.underlying t = some (.map k e)) (b : Nat) (E : Ens)
    (hm : a.eval m = .map (some b)) (hown : IMap P k e w b E) (hn : E.length < maxLen) (key val : Int) (hx : a.eval x = .int .i64 key) (hv : a.eval v = .int .i64 val) (wk : (Lit.int .i64 key).wf = true) (wv : (Lit.int .i64 val).wf = true)
    (hK : ∀ w', IMap P k e w' b (putE E key val) → w.grownBy w' (some b) → K (a.put o.dst undef) w') :
    if Region.wanted o (yielded ops a.tmps) = true then Oper.wp P o a w K Q else E' := by
  have hw : Region.wanted o (yielded ops a.tmps) = true := by simp [Region.wanted, hgd]
  rw [if_pos hw]
  exact wp_putI w m x v t hop k e hk he ht b E hm hown hn key val hx hv wk wv hK
end

section
variable {P : Program} (w : World) {ops : Array Oper} {rest : List Oper} {o : Oper} {a : Act} {Q : Exit → Act → World → Prop}
/-- 'make([]T, n)', the new world by name. -/
theorem wpList_make_rec (hg : o.guard = none) (l c : Operand) (t : TypeId) (hop : o.op = Op.makeSlice t l c)
    (e : TypeId) (i : TypeInfo) (z : Value) (size : Nat) (h1 : P.underlying t = some (.slice e)) (h2 : P.info? e = some i) (h3 : i.zero = some z) (h4 : i.size = size)
    (kl kc : IntKind) (L C : Int) (n : Nat) (hl : a.eval l = .int kl L) (hc : a.eval c = .int kc C) (hL : L = (n : Int)) (hC : C = (n : Int)) (b2 : i.bytes * n ≤ 281474976710656) (b3 : n ≤ maxLen)
    (hK : wpList P ops Q rest (a.put o.dst (.slice (some ⟨w.heap.size, 0, none⟩) n n)) (w.alloc (.cells (madeCells z.cells (n * size)) e))) :
    wpList P ops Q (o :: rest) a w := by
  refine wpList_plain hg fun K hK' => ?_
  have h63' : (n : Int) ≤ 9223372036854775807 := by
    have h := b3
    simp [maxLen] at h
    omega
  have hb' : (i.bytes : Int) * (n : Int) ≤ 281474976710656 := by
    have h : ((i.bytes * n : Nat) : Int) ≤ 281474976710656 := by omega
    rwa [Int.natCast_mul] at h
  have hrun := run_make (P := P) w t e i z h1 h2 h3 kl kc n n (by omega) (Int.le_refl _) hb' h63'
  subst hL
  subst hC
  subst h4
  simp only [Int.toNat_natCast] at hrun
  unfold Oper.wp
  simp [execOp, hop, hl, hc, hrun, Result.andThen]
  exact hK' _ _ hK
end
theorem RBlk.made (w : World) {t : TypeId} {m n : Nat} {z : Array Value} (hz : z.size = m) (hm : 0 < m) : RBlk (w.alloc (.cells (madeCells z (n * m)) t)) w.heap.size t m n (fun _ => z.toList) := by
  refine ⟨_, Blk.new _ _ _, size_madeCells _ _, fun i j hi hj => ?_⟩
  have hlt := idx_lt hi hj
  unfold madeCells
  rw [Array.getElem?_map, Array.getElem?_range, if_pos hlt]
  have hmod : (i * m + j) % z.size = j := by rw [hz, Nat.add_comm, Nat.mul_comm, Nat.add_mul_mod_self_left, Nat.mod_eq_of_lt hj]
  simp only [Option.map_some, hmod]
  rw [Array.getElem?_toList, getElem!_pos z j (by omega), Array.getElem?_eq_getElem (by omega)]
abbrev IM (w : World) (b : Nat) (E : Ens) : Prop := IMap Tryz.prog 3 3 w b E
abbrev IMV (w : World) (m : Option Nat) (E : Ens) : Prop := IMapV Tryz.prog 3 3 w m E
theorem infoDep : (Tryz.prog.info? 69).map (fun i => (i.zero, i.size, i.bytes)) = some (some (.agg #[.int .i64 0, .int .i64 0, .int .i64 0]), 3, 24) := by kernel_rfl
theorem zeroInt (w : World) : (zeroValue 3).run Tryz.prog w = .ok (.int .i64 0) w := by kernel_rfl
def WfD (ds : List Dp) : Prop := ∀ d ∈ ds, (Lit.int .i64 d.1).wf = true ∧ (Lit.int .i64 d.2.1).wf = true ∧ (Lit.int .i64 d.2.2).wf = true
def WfI (r : List Int) : Prop := ∀ x ∈ r, (Lit.int .i64 x).wf = true
theorem dep_at {w : World} {A : Option Addr} {len : Nat} {ds : List Dp} (h : IsRec 3 cD d0 w A len ds) (k : Nat) (hk : k < len) :
    ∃ b off, A = some ⟨b, off, none⟩ ∧ b < w.heap.size ∧ ds.getD k d0 ∈ ds ∧ w.cell? ⟨b, off + k * 3, none⟩ = some (.int .i64 (ds.getD k d0).1) ∧ w.cell? ⟨b, off + k * 3 + 1, none⟩ = some (.int .i64 (ds.getD k d0).2.1) ∧ w.cell? ⟨b, off + k * 3 + 1 + 1, none⟩ = some (.int .i64 (ds.getD k d0).2.2) := by
  obtain ⟨b, off, ha, hb, hc⟩ := h.2 (by omega)
  have hl : k < ds.length := by rw [h.1]; exact hk
  exact ⟨b, off, ha, hb, by simp [List.getD, hl], hc k 0 hk (by omega), hc k 1 hk (by omega), hc k 2 hk (by omega)⟩
theorem wf_small (n : Int) (h0 : -1000000000000000000 ≤ n) (h1 : n ≤ 1000000000000000000) : (Lit.int .i64 n).wf = true := by
  have e1 : IntKind.i64.min = -9223372036854775808 := by decide
  have e2 : IntKind.i64.max = 9223372036854775807 := by decide
  simp only [Lit.wf, Bool.and_eq_true, decide_eq_true_eq, e1, e2]
  omega
theorem int_at {w : World} {A : Option Addr} {len : Nat} {l : List Int} (h : IsRec 1 cI 0 w A len l) (k : Nat) (hk : k < len) :
    ∃ b off, A = some ⟨b, off, none⟩ ∧ b < w.heap.size ∧ l.getD k 0 ∈ l ∧ w.cell? ⟨b, off + k, none⟩ = some (.int .i64 (l.getD k 0)) := by
  obtain ⟨b, off, ha, hb, hc⟩ := h.2 (by omega)
  have hl : k < l.length := by rw [h.1]; exact hk
  refine ⟨b, off, ha, hb, by simp [List.getD, hl], ?_⟩
  have := hc k 0 hk (by omega)
  simpa [cI] using this
theorem take_eq_snoc {α : Type} (d : α) {l1 l2 : List α} {k : Nat} (h : l1.take k = l2.take k) (h1 : k < l1.length) (h2 : k < l2.length) (e : l1.getD k d = l2.getD k d) : l1.take (k + 1) = l2.take (k + 1) := by
  rw [take_snocG d l1 k h1, take_snocG d l2 k h2, h, e]
def cB (b : Bool) : List Value := [.bool b]
theorem bool_at {w : World} {A : Option Addr} {len : Nat} {l : List Bool} (h : IsRec 1 cB false w A len l) (k : Nat) (hk : k < len) :
    ∃ b off, A = some ⟨b, off, none⟩ ∧ b < w.heap.size ∧ l.getD k false ∈ l ∧ w.cell? ⟨b, off + k, none⟩ = some (.bool (l.getD k false)) := by
  obtain ⟨b, off, ha, hb, hc⟩ := h.2 (by omega)
  have hl : k < l.length := by rw [h.1]; exact hk
  refine ⟨b, off, ha, hb, by simp [List.getD, hl], ?_⟩
  have := hc k 0 hk (by omega)
  simpa [cB] using this
theorem infoBool : (Tryz.prog.info? 4).map (fun i => (i.zero, i.size, i.bytes)) = some (some (.bool false), 1, 1) := by kernel_rfl
theorem RBlk.set1 {w : World} {g : Nat} {t : TypeId} {n : Nat} {c : Nat → List Value} (h : RBlk w g t 1 n c) {i : Nat} (hi : i < n) (v : Value) : RBlk (w.setCell ⟨g, i, none⟩ v) g t 1 n (setR c i 0 v) := by
  have h1 := h.set_ (j := 0) hi (by omega) v
  rw [show i * 1 + 0 = i from by omega] at h1
  exact h1
theorem own_mono {w : World} {base base' : Nat} {e : TypeId} {size : Nat} {v : Value} {n : Nat} {xs : List Value} (h : w.ownsRow base e size v n xs) (hb : base' ≤ base) : w.ownsRow base' e size v n xs := by
  refine ⟨h.1, ?_⟩
  rcases h.2 with h | ⟨g, cap, cur, h1, h2, h3⟩
  · exact .inl h
  · exact .inr ⟨g, cap, cur, h1, by omega, h3⟩
theorem own_keptJ {w w' : World} {base : Nat} {e : TypeId} {size n g : Nat} {v : Value} {xs : List Value} (h : w.ownsRow base e size v n xs) (hg : w.grownBy w' (some g)) (hne : ∀ q, v.ownBlock = some q → q ≠ g) : w'.ownsRow base e size v n xs :=
  h.kept hg (by
    cases hb : v.ownBlock with
    | none => exact .inl rfl
    | some q => exact .inr (by intro e; first | (injection e with e; exact hne q hb e) | (injection e with e; exact hne q hb e.symm)))
theorem cD_len3 (x : Dp) : (cD x).length = 3 := rfl
theorem cD_oneJ (l : List Dp) : ∀ u ∈ l.flatMap cD, u.oneCell' = true := by
  intro u hu
  rw [List.mem_flatMap] at hu
  obtain ⟨d, _, hd⟩ := hu
  simp only [cD, List.mem_cons, List.not_mem_nil, or_false] at hd
  rcases hd with rfl | rfl | rfl <;> rfl
theorem own_empty (w : World) (e size : Nat) : (w.alloc (.cells #[] e)).ownsRow w.heap.size e size (.slice (some ⟨w.heap.size, 0, none⟩) 0 0) 0 [] := by
  refine ⟨by simp, .inr ⟨w.heap.size, 0, #[], rfl, Nat.le_refl _, heap_alloc_new w _, ?_⟩⟩
  simp
set_option maxRecDepth 100000 in
set_option maxHeartbeats 1000000 in
theorem cloneI_any (a : Option Addr) (c : Nat) (l : List Int) (w : World) (hl : l.length ≤ 1000000) (hne : 0 < l.length) (h : IsRec 1 cI 0 w a l.length l) :
    Calls Tryz.prog 77 #[.slice a l.length c] w (IntsPost l w) := by
  obtain ⟨b, off, rfl, hb, _⟩ := h.2 hne
  have RA := Lib.hid ((reads_of_rec cI_length h).alloc (Nat.le_refl _) (.cells #[] 3))
  have fo := Lib.hid (cI_one l)
  clear h hb
  obtain ⟨i0, hi0, hz0, hz1, hz2⟩ := info_parts infoInt
  have hnil : ∀ (w : World) (a : Option Addr) (n c n' c' : Nat), (binOp .eql 28 (.slice a n c) (.slice none n' c')).run Tryz.prog w = .ok (.bool a.isNone) w := fun w a n c n' c' => Lib.run_eql_slice_nil w 28 3 a n c n' c' Tryz.underlying28
  go_enter Tryz.func77, Tryz.ntmps77
  go_wp2_with (at_builtin; refine wpList_append_any _ rfl (.tmp 5) (.tmp 6) 28 rfl w.heap.size 3 i0 _ 1 8 Tryz.underlying28 hi0 hz0 hz1 hz2 rfl (by decide) _ 0 [] rfl (own_empty w 3 1) w.heap.size _ l.length c (l.flatMap cI) rfl RA.out fo.out ?c3 ?c4 ?c5 ?_)
  case c3 => unfold maxLen; omega
  case c4 => omega
  case c5 => simp
  intro v1 w1 own1 gr1 _
  try simp only [Nat.zero_add, List.nil_append] at own1
  have bel : Hid (Below w.heap.size w w1) := ((Below.refl _ _).alloc (Nat.le_refl _) _).grown gr1 (by simp) (by intro g e; simp [Value.ownBlock] at e; omega)
  have F : Hid (IntsPost l w (.returned v1) w1) := ⟨v1, rfl, own1, bel.out⟩
  clear own1 gr1
  go_wp2_with fail
  go_ret
  exact F.out
theorem fieldsOf_of {P : Program} {t : TypeId} {fs : Array Field} (h : P.underlying t = some (.struct fs)) : P.fieldsOf t = fs := by unfold Program.fieldsOf; rw [h]
def RelEqD (l1 l2 : List Dp) (w : World) (i : Value) (wr : World) : Prop :=
  ∃ k : Nat, k ≤ l1.length ∧ i = .int .i64 k ∧ l1.take k = l2.take k ∧ Below w.heap.size w wr
theorem eqDepD (a b c d e f : Int) (w : World) : (Op.equalIn 10000 69 (.agg #[.int .i64 a, .int .i64 b, .int .i64 c]) (.agg #[.int .i64 d, .int .i64 e, .int .i64 f])).run Tryz.prog w = .ok (a == d && b == e && c == f) w := by
  have u3 := Tryz.underlying3
  have a3 := Tryz.isAgg3
  have z3 := Tryz.sizeOf3
  have ht := Tryz.underlying69
  have hf := fieldsOf_of ht
  rw [show (10000 : Nat) = 9999 + 1 from rfl, run_equalIn_struct w 9999 69 _ _ (by rw [hf]; exact ht) (by kernel_rfl), hf]
  simp only [Op.eqFields]
  go_simp
  by_cases h1 : a = d <;> by_cases h2 : b = e <;> by_cases h3 : c = f <;> simp [h1, h2, h3]
def RelIx (p : Int → Bool) (l : List Int) (i : Value) : Prop := ∃ k : Nat, k ≤ l.length ∧ i = .int .i64 k ∧ ∀ x ∈ l.take k, p x = false
def IdxP (p : Int → Bool) (l : List Int) (w : World) (e : Ending) (w' : World) : Prop := w = w' ∧ ∃ n : Int, e = .returned (.int .i64 n) ∧ decide (0 ≤ n) = l.any p
theorem IdxP.yes {p : Int → Bool} {l : List Int} {w : World} {k : Nat} {x : Int} (hm : x ∈ l) (hx : p x = true) : IdxP p l w (.returned (.int .i64 k)) w :=
  ⟨rfl, k, rfl, by rw [decide_eq_true (by omega)]; exact (List.any_eq_true.2 ⟨x, hm, hx⟩).symm⟩
theorem IdxP.no {p : Int → Bool} {l : List Int} {w : World} (h : ∀ x ∈ l.take l.length, p x = false) : IdxP p l w (.returned (.int .i64 (-1))) w := by
  rw [List.take_length] at h
  refine ⟨rfl, -1, rfl, ?_⟩
  have : l.any p = false := by rw [List.any_eq_false]; intro x hx; rw [h x hx]; simp
  rw [this]; rfl
theorem RelIx.step {p : Int → Bool} {l : List Int} {k : Nat} (hk : k < l.length) (h : ∀ x ∈ l.take k, p x = false) (hx : p (l.getD k 0) = false) : RelIx p l (.int .i64 ((k + 1 : Nat) : Int)) :=
  ⟨k + 1, by omega, rfl, fun y hy => by
    rw [take_snocG 0 l k hk, List.mem_append] at hy
    rcases hy with hy | hy
    · exact h y hy
    · simp at hy; rw [hy]; exact hx⟩
set_option maxHeartbeats 1000000 in
theorem idxI_any (v : Int) (l : List Int) (a : Option Addr) (c : Nat) (w : World) (hl : l.length ≤ 1000000) (h : IsRec 1 cI 0 w a l.length l) :
    Calls Tryz.prog 78 #[.slice a l.length c, .int .i64 v] w (IdxP (fun x => v == x) l w) := by
  have H := Lib.hid h
  clear h
  go_enter Tryz.func78, Tryz.ntmps78
  go_wp2_with fail
  go_loop [8] (fun i => RelIx (fun x => v == x) l i) (fun i => l.length - (RowKit.intOf i).toNat)
  case atStart => exact ⟨0, Nat.zero_le _, rfl, by simp⟩
  case round =>
    obtain ⟨k, hk, rfl, hall⟩ := hrel
    have HA := Lib.hid hall
    clear hall
    by_cases hkr : k < l.length
    · obtain ⟨b1, o1, ha1, hb1, hm1, e1⟩ := int_at H.out k hkr
      have HS := Lib.hid (fun hx => RelIx.step hkr HA.out hx)
      have HY : Hid ((v == l.getD k 0) = true → IdxP (fun x => v == x) l w (.returned (.int .i64 k)) w) := fun hx => IdxP.yes hm1 hx
      subst ha1
      generalize l.getD k 0 = x at *
      clear hm1
      cases hq : v == x with
      | false =>
        have R := Lib.hid (HS.out hq)
        clear HS HY
        go_wp2_with fail
        exact ⟨by simpa using R.out, by simp [RowKit.intOf]; omega⟩
      | true =>
        have F := Lib.hid (HY.out hq)
        clear HS HY
        go_wp2_with fail
        go_ret
        exact F.out
    · obtain rfl : k = l.length := by omega
      have F := Lib.hid (IdxP.no (w := w) HA.out)
      go_wp2_with fail
      go_ret
      exact F.out
theorem mem_take_snoc {α : Type} {d : α} {P : α → Prop} {l : List α} {k : Nat} (hk : k < l.length) (h : ∀ x ∈ l.take k, P x) (hx : P (l.getD k d)) : ∀ x ∈ l.take (k + 1), P x := by
  intro y hy
  rw [take_snocG d l k hk, List.mem_append] at hy
  rcases hy with hy | hy
  · exact h y hy
  · simp only [List.mem_singleton] at hy; rw [hy]; exact hx
theorem all_of_take {α : Type} {p : α → Bool} {l : List α} (h : ∀ x ∈ l.take l.length, p x = true) : l.all p = true := by rw [List.take_length] at h; exact List.all_eq_true.2 h
end Go.Proofs.YtljojgpjgjfddaaGreat
