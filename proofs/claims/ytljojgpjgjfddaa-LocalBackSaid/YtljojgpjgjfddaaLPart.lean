/- Rows of records that the call itself writes; the parts of package local in memory. -/
import Derived.Test.YtljojgpjgjfddaaLChan
import Derived.Test.YtljojgpjgjfddaaIMap
namespace Go.Proofs.Ytljojgpjgjfddaa
open Go.RowKit Go.Maps
set_option linter.unusedVariables false

theorem pair_idx {m i j i' j' : Nat} (hj : j < m) (hj' : j' < m) (h : i * m + j = i' * m + j') : i = i' ∧ j = j' := by
  have h1 : (i * m + j) / m = i := by rw [Nat.mul_comm, Nat.mul_add_div (by omega)]; simp [Nat.div_eq_of_lt hj]
  have h2 : (i' * m + j') / m = i' := by rw [Nat.mul_comm, Nat.mul_add_div (by omega)]; simp [Nat.div_eq_of_lt hj']
  have e : i = i' := by rw [← h1, ← h2, h]
  subst e
  exact ⟨rfl, by omega⟩
theorem idx_lt {m n i j : Nat} (hi : i < n) (hj : j < m) : i * m + j < n * m := by
  have h1 : i * m + j < (i + 1) * m := by rw [Nat.add_mul]; omega
  exact Nat.lt_of_lt_of_le h1 (Nat.mul_le_mul_right m hi)

/-- Block g is a row of n records of m cells; record i has the cells c i. -/
def RBlk (w : World) (g : Nat) (t : TypeId) (m n : Nat) (c : Nat → List Value) : Prop :=
  ∃ arr, Blk w g t arr ∧ arr.size = n * m ∧ ∀ i j, i < n → j < m → arr[i * m + j]? = (c i)[j]?
def setR (c : Nat → List Value) (i j : Nat) (v : Value) : Nat → List Value := fun x => if x = i then (c i).set j v else c x

section
variable {w w' : World} {g : Nat} {t : TypeId} {m n : Nat} {c : Nat → List Value}
theorem RBlk.lt (h : RBlk w g t m n c) : g < w.heap.size := by obtain ⟨arr, h, _⟩ := h; exact h.lt
theorem RBlk.cell (h : RBlk w g t m n c) {i j : Nat} (hi : i < n) (hj : j < m) : w.cell? ⟨g, i * m + j, none⟩ = (c i)[j]? := by
  obtain ⟨arr, h, hs, hc⟩ := h
  rw [h.cell, hc i j hi hj]
theorem RBlk.frozen (h : RBlk w g t m n c) (i : Nat) : w.frozen? ⟨g, i, none⟩ = false := by obtain ⟨arr, h, _⟩ := h; exact h.frozen i
theorem RBlk.drew (h : RBlk w g t m n c) : RBlk w.drew g t m n c := h
theorem RBlk.drewN (h : RBlk w g t m n c) (q : Nat) : RBlk (w.drewN q) g t m n c := h
theorem RBlk.alloc (h : RBlk w g t m n c) (o : Obj) : RBlk (w.alloc o) g t m n c := by obtain ⟨arr, h, r⟩ := h; exact ⟨arr, h.alloc o, r⟩
theorem RBlk.far (h : RBlk w g t m n c) {p : Addr} (hp : g ≠ p.block) (u : Value) : RBlk (w.setCell p u) g t m n c := by obtain ⟨arr, h, r⟩ := h; exact ⟨arr, h.far hp u, r⟩
theorem RBlk.below {B : Nat} (h : RBlk w g t m n c) (hb : Below B w w') (hg : g < B) : RBlk w' g t m n c := by obtain ⟨arr, h, r⟩ := h; exact ⟨arr, h.below hb hg, r⟩
theorem RBlk.grown {row : Option Nat} (h : RBlk w g t m n c) (hb : w.grownBy w' row) (hg : some g ≠ row) : RBlk w' g t m n c := by obtain ⟨arr, h, r⟩ := h; exact ⟨arr, h.grown hb hg, r⟩
theorem RBlk.congr {c' : Nat → List Value} (h : RBlk w g t m n c) (e : ∀ i, i < n → c i = c' i) : RBlk w g t m n c' := by
  obtain ⟨arr, h, hs, hc⟩ := h; exact ⟨arr, h, hs, fun i j hi hj => by rw [← e i hi]; exact hc i j hi hj⟩
theorem RBlk.set_ (h : RBlk w g t m n c) {i j : Nat} (hi : i < n) (hj : j < m) (v : Value) : RBlk (w.setCell ⟨g, i * m + j, none⟩ v) g t m n (setR c i j v) := by
  obtain ⟨arr, h, hs, hc⟩ := h
  have hlt := idx_lt hi hj
  refine ⟨_, h.set_ _ v, by simpa using hs, fun i' j' hi' hj' => ?_⟩
  have h0 := hc i j hi hj
  have hjl : j < (c i).length := by
    rcases Nat.lt_or_ge j (c i).length with h | h
    · exact h
    · rw [List.getElem?_eq_none h, Array.getElem?_eq_none_iff] at h0; omega
  unfold setR
  rw [Array.getElem?_setIfInBounds]
  by_cases e : i * m + j = i' * m + j'
  · obtain ⟨rfl, rfl⟩ := pair_idx hj hj' e
    rw [if_pos rfl, if_pos (by omega), if_pos rfl, List.getElem?_set_self hjl]
  · rw [if_neg e, hc i' j' hi' hj']
    by_cases e2 : i' = i
    · subst e2
      have : j ≠ j' := fun e3 => e (by rw [e3])
      rw [if_pos rfl, List.getElem?_set_ne this]
    · rw [if_neg e2]
theorem RBlk.of_own {base cap : Nat} {z : Array Value} (hz : z.size = m) (hm : 0 < m) (h : w.ownsRow base t m (.slice (some ⟨g, 0, none⟩) n n) n (madeCells z (n * m)).toList) : RBlk w g t m n (fun _ => z.toList) := by
  rcases h.2 with ⟨h1, _⟩ | ⟨g', cap, cur, hv, hb, hg, _, _, hs, ht⟩
  · cases h1
  · simp only [Value.slice.injEq, Option.some.injEq, Addr.mk.injEq, and_true, true_and] at hv
    obtain ⟨rfl, rfl⟩ := hv
    refine ⟨cur, hg, hs, fun i j hi hj => ?_⟩
    have hlt := idx_lt hi hj
    have e1 : cur.toList = (madeCells z (n * m)).toList := by rw [← ht, List.take_of_length_le (by simp; omega)]
    have e2 : cur = madeCells z (n * m) := by cases cur; cases hq : madeCells z (n * m); rw [hq] at e1; simp at e1; rw [e1]
    rw [e2]
    unfold madeCells
    rw [Array.getElem?_map, Array.getElem?_range, if_pos hlt]
    have hmod : (i * m + j) % z.size = j := by rw [hz, Nat.add_comm, Nat.mul_comm, Nat.add_mul_mod_self_left, Nat.mod_eq_of_lt hj]
    simp only [Option.map_some, hmod]
    rw [Array.getElem?_toList, getElem!_pos z j (by omega), Array.getElem?_eq_getElem (by omega)]
/-- A row of records reads as a list. -/
theorem RBlk.isRec {α : Type} {cc : α → List Value} {d : α} {xs : List α} (h : RBlk w g t m n c) (hl : xs.length = n) (e : ∀ i, i < n → c i = cc (xs.getD i d)) : IsRec m cc d w (some ⟨g, 0, none⟩) n xs :=
  ⟨hl, fun h0 => ⟨g, 0, rfl, h.lt, fun i j hi hj => by rw [Nat.zero_add, h.cell hi hj, e i hi]⟩⟩
end

section
variable {P : Program} (w : World) {ops : Array Oper} {rest : List Oper} {o : Oper} {a : Act} {K : Act → World → Prop} {Q : Exit → Act → World → Prop} {E' : Prop}
/-- 'm[k] = v' at ints. -/
theorem wp_putI (m x v : Operand) (t : TypeId) (hop : o.op = Op.mapUpdate t m x v)
    (k e : TypeId) (hk : P.underlying k = some (.int .i64)) (he : P.underlying e = some (.int .i64)) (ht : P.underlying t = some (.map k e)) (b : Nat) (E : Ens)
    (hm : a.eval m = .map (some b)) (hown : IMap P k e w b E) (hn : E.length < maxLen) (key val : Int) (hx : a.eval x = .int .i64 key) (hv : a.eval v = .int .i64 val) (wk : (Lit.int .i64 key).wf = true) (wv : (Lit.int .i64 val).wf = true)
    (hK : ∀ w', IMap P k e w' b (putE E key val) → w.grownBy w' (some b) → K (a.put o.dst undef) w') : o.wp P a w K Q := by
  obtain ⟨w', hrun, r1, r2⟩ := hown.store hk he ht hn wk wv
  unfold Oper.wp
  simp [execOp, hop, hm, hx, hv, hrun, Result.andThen]
  exact hK w' r1 r2
theorem step_putI (hgd : o.guard = none) (m x v : Operand) (t : TypeId) (hop : o.op = Op.mapUpdate t m x v)
    (k e : TypeId) (hk : P.underlying k = some (.int .i64)) (he : P.underlying e = some (.int .i64)) (ht : P.underlying t = some (.map k e)) (b : Nat) (E : Ens)
    (hm : a.eval m = .map (some b)) (hown : IMap P k e w b E) (hn : E.length < maxLen) (key val : Int) (hx : a.eval x = .int .i64 key) (hv : a.eval v = .int .i64 val) (wk : (Lit.int .i64 key).wf = true) (wv : (Lit.int .i64 val).wf = true)
    (hK : ∀ w', IMap P k e w' b (putE E key val) → w.grownBy w' (some b) → K (a.put o.dst undef) w') :
    if Region.wanted o (yielded ops a.tmps) = true then Oper.wp P o a w K Q else E' := by
  have hw : Region.wanted o (yielded ops a.tmps) = true := by simp [Region.wanted, hgd]
  rw [if_pos hw]
  exact wp_putI w m x v t hop k e hk he ht b E hm hown hn key val hx hv wk wv hK
end

section
variable {P : Program} (w : World) {ops : Array Oper} {rest : List Oper} {o : Oper} {a : Act} {Q : Exit → Act → World → Prop}
/-- 'make([]T, n)', the new world by name. -/
theorem wpList_make_rec (hg : o.guard = none) (l c : Operand) (t : TypeId) (hop : o.op = Op.makeSlice t l c)
    (e : TypeId) (i : TypeInfo) (z : Value) (size : Nat) (h1 : P.underlying t = some (.slice e)) (h2 : P.info? e = some i) (h3 : i.zero = some z) (h4 : i.size = size)
    (kl kc : IntKind) (L C : Int) (n : Nat) (hl : a.eval l = .int kl L) (hc : a.eval c = .int kc C) (hL : L = (n : Int)) (hC : C = (n : Int)) (b2 : i.bytes * n ≤ 281474976710656) (b3 : n ≤ maxLen)
    (hK : wpList P ops Q rest (a.put o.dst (.slice (some ⟨w.heap.size, 0, none⟩) n n)) (w.alloc (.cells (madeCells z.cells (n * size)) e))) :
    wpList P ops Q (o :: rest) a w := by
  refine wpList_plain hg fun K hK' => ?_
  have h63' : (n : Int) ≤ 9223372036854775807 := by
    have h := b3
    simp [maxLen] at h
    omega
  have hb' : (i.bytes : Int) * (n : Int) ≤ 281474976710656 := by
    have h : ((i.bytes * n : Nat) : Int) ≤ 281474976710656 := by omega
    rwa [Int.natCast_mul] at h
  have hrun := run_make (P := P) w t e i z h1 h2 h3 kl kc n n (by omega) (Int.le_refl _) hb' h63'
  subst hL
  subst hC
  subst h4
  simp only [Int.toNat_natCast] at hrun
  unfold Oper.wp
  simp [execOp, hop, hl, hc, hrun, Result.andThen]
  exact hK' _ _ hK
end
theorem RBlk.made (w : World) {t : TypeId} {m n : Nat} {z : Array Value} (hz : z.size = m) (hm : 0 < m) : RBlk (w.alloc (.cells (madeCells z (n * m)) t)) w.heap.size t m n (fun _ => z.toList) := by
  refine ⟨_, Blk.new _ _ _, size_madeCells _ _, fun i j hi hj => ?_⟩
  have hlt := idx_lt hi hj
  unfold madeCells
  rw [Array.getElem?_map, Array.getElem?_range, if_pos hlt]
  have hmod : (i * m + j) % z.size = j := by rw [hz, Nat.add_comm, Nat.mul_comm, Nat.add_mul_mod_self_left, Nat.mod_eq_of_lt hj]
  simp only [Option.map_some, hmod]
  rw [Array.getElem?_toList, getElem!_pos z j (by omega), Array.getElem?_eq_getElem (by omega)]

/-! Parts. -/
structure Pt where
  node : Int
  deps : List Dp
  ranks : Ens
def pt0 : Pt := ⟨0, [], []⟩
abbrev IM (w : World) (b : Nat) (E : Ens) : Prop := IMap Try.prog 3 3 w b E
abbrev IMV (w : World) (m : Option Nat) (E : Ens) : Prop := IMapV Try.prog 3 3 w m E

/-- The three cells read as a part. -/
def IsPart (w : World) (cs : List Value) (x : Pt) : Prop :=
  ∃ a cap m, cs = [.int .i64 x.node, .slice a x.deps.length cap, .map m] ∧ IsRec 3 cD d0 w a x.deps.length x.deps ∧ IMV w m x.ranks
theorem IsPart.below {w w' : World} {B : Nat} {cs : List Value} {x : Pt} (h : IsPart w cs x) (hB : w.heap.size ≤ B) (hb : Below B w w') : IsPart w' cs x := by
  obtain ⟨a, cap, m, e, h1, h2⟩ := h
  exact ⟨a, cap, m, e, h1.below hB hb, h2.below hb hB⟩
/-- The slice (a, len) reads as parts. -/
def IsParts (w : World) (a : Option Addr) (len : Nat) (xs : List Pt) : Prop :=
  xs.length = len ∧ (0 < len → ∃ b off, a = some ⟨b, off, none⟩ ∧ b < w.heap.size ∧ ∀ i, i < len → ∃ cs, IsPart w cs (xs.getD i pt0) ∧ ∀ j, j < 3 → w.cell? ⟨b, off + i * 3 + j, none⟩ = cs[j]?)
theorem IsParts.below {w w' : World} {B len : Nat} {a : Option Addr} {xs : List Pt} (h : IsParts w a len xs) (hB : w.heap.size ≤ B) (hb : Below B w w') : IsParts w' a len xs := by
  refine ⟨h.1, fun h0 => ?_⟩
  obtain ⟨b, off, e, hlt, hc⟩ := h.2 h0
  refine ⟨b, off, e, by have := hb.size; omega, fun i hi => ?_⟩
  obtain ⟨cs, h1, h2⟩ := hc i hi
  exact ⟨cs, h1.below hB hb, fun j hj => by rw [hb.cell (by show b < B; omega)]; exact h2 j hj⟩
theorem IsParts.at_ {w : World} {a : Option Addr} {len : Nat} {xs : List Pt} (h : IsParts w a len xs) (k : Nat) (hk : k < len) :
    ∃ b off ad cd m, a = some ⟨b, off, none⟩ ∧ b < w.heap.size ∧ xs.getD k pt0 ∈ xs ∧ w.cell? ⟨b, off + k * 3, none⟩ = some (.int .i64 (xs.getD k pt0).node) ∧ w.cell? ⟨b, off + k * 3 + 1, none⟩ = some (.slice ad (xs.getD k pt0).deps.length cd) ∧
      w.cell? ⟨b, off + k * 3 + 2, none⟩ = some (.map m) ∧ IsRec 3 cD d0 w ad (xs.getD k pt0).deps.length (xs.getD k pt0).deps ∧ IMV w m (xs.getD k pt0).ranks := by
  obtain ⟨b, off, e, hlt, hc⟩ := h.2 (by omega)
  obtain ⟨cs, ⟨ad, cd, m, rfl, h1, h2⟩, hcell⟩ := hc k hk
  have hl : k < xs.length := by rw [h.1]; exact hk
  exact ⟨b, off, ad, cd, m, e, hlt, by simp [List.getD, hl], hcell 0 (by omega), hcell 1 (by omega), hcell 2 (by omega), h1, h2⟩
end Go.Proofs.Ytljojgpjgjfddaa
