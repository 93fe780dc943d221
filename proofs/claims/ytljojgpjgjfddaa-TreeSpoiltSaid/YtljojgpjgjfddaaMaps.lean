/- A map of the call's own, as a function from its keys to values (whatever the elements' type). No program in sight. -/
import Derived.Maps.Own
import Derived.Maps.OwnOps
import Derived.Maps.OwnSet
import Derived.Test.YtljojgpjgjfddaaMem
namespace Go.Proofs.Ytljojgpjgjfddaa
open Go.RowKit Go.Maps
set_option linter.unusedVariables false

def anyElem (v : Value) : Option (DataW Value × List MemPlace) := some (.held v, [])

/-- Block b is a map of at most n entries; at the key l it holds M l. -/
def OMap (w : World) (P : Program) (k : TypeId) (b n : Nat) (M : Lit → Option Value) : Prop :=
  ∃ D : DataW Value, w.ownsMap P k anyElem b n D ∧ ∀ l, Maps.has D l = (M l).isSome ∧ ∀ z, D.atKey l (.held z) = .held ((M l).getD z)

def putM (M : Lit → Option Value) (k : Lit) (v : Value) : Lit → Option Value := fun l => if l.sameKey k then some v else M l

section
variable {w w' : World} {P : Program} {k : TypeId} {b n : Nat} {M : Lit → Option Value}
theorem OMap.made (w : World) (P : Program) (k : TypeId) : OMap (w.alloc (.map #[] 0)) P k w.heap.size 0 (fun _ => none) :=
  ⟨.map [], World.ownsMap_made w P k anyElem, fun l => ⟨rfl, fun z => rfl⟩⟩
theorem OMap.lt (h : OMap w P k b n M) : b < w.heap.size := by obtain ⟨D, h, _⟩ := h; exact h.lt
theorem OMap.mono {n' : Nat} (h : OMap w P k b n M) (hn : n ≤ n') : OMap w P k b n' M := by obtain ⟨D, h, h2⟩ := h; exact ⟨D, h.mono hn, h2⟩
theorem OMap.kept {row : Option Nat} (h : OMap w P k b n M) (hg : w.grownBy w' row) (hne : some b ≠ row) : OMap w' P k b n M := by
  obtain ⟨D, h, h2⟩ := h; exact ⟨D, h.kept hg hne, h2⟩
theorem OMap.alloc (h : OMap w P k b n M) (o : Obj) : OMap (w.alloc o) P k b n M := by obtain ⟨D, h, h2⟩ := h; exact ⟨D, h.alloc o, h2⟩
theorem OMap.drew (h : OMap w P k b n M) : OMap w.drew P k b n M := h
theorem OMap.drewN (h : OMap w P k b n M) (q : Nat) : OMap (w.drewN q) P k b n M := h
theorem OMap.setCell (h : OMap w P k b n M) {a : Addr} (ha : b ≠ a.block) (u : Value) : OMap (w.setCell a u) P k b n M := by obtain ⟨D, h, h2⟩ := h; exact ⟨D, h.setCell ha u, h2⟩
theorem OMap.below {B : Nat} (h : OMap w P k b n M) (hb : Below B w w') (hlt : b < B) : OMap w' P k b n M := by
  obtain ⟨D, ⟨es, clock, e, F⟩, h2⟩ := h
  exact ⟨D, ⟨es, clock, (hb.block b hlt).trans e, F⟩, h2⟩
theorem OMap.congr {M' : Lit → Option Value} (h : OMap w P k b n M) (e : ∀ l, M l = M' l) : OMap w P k b n M' := by
  have : M = M' := funext e
  rw [← this]; exact h

theorem OMap.look {t e : TypeId} (h : OMap w P k b n M) (K : Keyed P k) (ht : P.underlying t = some (.map k e)) {z : Value} (hz : (zeroValue e).run P w = .ok z w) {key : Value} {kl : Lit} (hkey : keyOf P k key = some kl) :
    (Instr.lookup t (.map (some b)) key false).run P w = .ok ((M kl).getD z) w := by
  obtain ⟨D, h, h2⟩ := h
  obtain ⟨v, ps, hrun, hv⟩ := h.lookup K ht hz (zd := .held z) (zp := []) rfl hkey
  rw [(h2 kl).2 z] at hv
  unfold anyElem at hv
  injection hv with hv
  injection hv with hv
  injection hv with hv
  rw [← hv]; exact hrun
theorem OMap.look_ok {t e : TypeId} (h : OMap w P k b n M) (K : Keyed P k) (ht : P.underlying t = some (.map k e)) {z : Value} (hz : (zeroValue e).run P w = .ok z w) {key : Value} {kl : Lit} (hkey : keyOf P k key = some kl) :
    (Instr.lookup t (.map (some b)) key true).run P w = .ok (.tuple #[(M kl).getD z, .bool (M kl).isSome]) w := by
  obtain ⟨D, h, h2⟩ := h
  obtain ⟨v, ps, hrun, hv⟩ := h.look_ok K ht hz (zd := .held z) (zp := []) rfl hkey
  rw [(h2 kl).2 z] at hv
  unfold anyElem at hv
  injection hv with hv
  injection hv with hv
  injection hv with hv
  rw [← hv, ← (h2 kl).1]; exact hrun
theorem OMap.store {t e : TypeId} (h : OMap w P k b n M) (K : Keyed P k) (ht : P.underlying t = some (.map k e)) (hn : n < maxLen) {key : Value} {kl : Lit} (hkey : keyOf P k key = some kl) (v : Value) :
    ∃ w', (Instr.mapUpdate t (.map (some b)) key v).run P w = .ok () w' ∧ OMap w' P k b (n + 1) (putM M kl v) ∧ w.grownBy w' (some b) := by
  obtain ⟨D, h, h2⟩ := h
  obtain ⟨w', hrun, h3, hg⟩ := h.update K ht hn hkey (val := v) (d := .held v) (ps := []) rfl
  refine ⟨w', hrun, ⟨_, h3, fun l => ?_⟩, hg⟩
  unfold putM
  by_cases hl : l = kl
  · subst hl
    rw [if_pos (WideAt.sameKey_self (K.key hkey))]
    exact ⟨has_put_same h.isMap (K.key hkey) _, fun z => atKey_put_same h.isMap (K.key hkey) _ _⟩
  · rw [if_neg (by rw [WideAt.sameKey_iff (K.key hkey)]; exact hl)]
    exact ⟨by rw [has_put_other hl]; exact (h2 l).1, fun z => by rw [atKey_put_other hl]; exact (h2 l).2 z⟩
end

/-- A set of keys, as a map to bools. -/
def setM (l : List Lit) : Lit → Option Value := fun x => if l.any (fun a => x.sameKey a) then some (.bool true) else none
theorem setM_nil : setM [] = fun _ => none := rfl
theorem setM_snoc (l : List Lit) (a : Lit) : putM (setM l) a (.bool true) = setM (l ++ [a]) := by
  funext x
  unfold putM setM
  rw [List.any_append]
  by_cases h : x.sameKey a = true
  · simp [h]
  · simp [h]
theorem setM_get (l : List Lit) (a : Lit) : (setM l a).getD (.bool false) = .bool (l.any fun b => a.sameKey b) := by
  unfold setM
  cases l.any fun b => a.sameKey b <;> rfl

section
variable {P : Program} (w : World) {ops : Array Oper} {rest : List Oper} {o : Oper} {a : Act} {Q : Exit → Act → World → Prop}
/-- 'm[k]' at the operation. -/
theorem wpList_look (hg : o.guard = none) (m x : Operand) (t : TypeId) (hop : o.op = Op.lookup t m x false)
    (k e : TypeId) (K : Keyed P k) (ht : P.underlying t = some (.map k e)) (z : Value) (hz : (zeroValue e).run P w = .ok z w) (b n : Nat) (M : Lit → Option Value)
    (hm : a.eval m = .map (some b)) (hown : OMap w P k b n M) (key : Value) (kl : Lit) (hx : a.eval x = key) (hkey : keyOf P k key = some kl)
    (hK : wpList P ops Q rest (a.put o.dst ((M kl).getD z)) w) : wpList P ops Q (o :: rest) a w := by
  refine wpList_plain hg fun K' hK' => ?_
  have hrun := hown.look K ht hz hkey
  unfold Oper.wp
  simp [execOp, hop, hm, hx, hrun, Result.andThen]
  exact hK' _ _ hK
/-- 'v, ok := m[k]' at the operation. -/
theorem wpList_look_ok (hg : o.guard = none) (m x : Operand) (t : TypeId) (hop : o.op = Op.lookup t m x true)
    (k e : TypeId) (K : Keyed P k) (ht : P.underlying t = some (.map k e)) (z : Value) (hz : (zeroValue e).run P w = .ok z w) (b n : Nat) (M : Lit → Option Value)
    (hm : a.eval m = .map (some b)) (hown : OMap w P k b n M) (key : Value) (kl : Lit) (hx : a.eval x = key) (hkey : keyOf P k key = some kl)
    (hK : wpList P ops Q rest (a.put o.dst (.tuple #[(M kl).getD z, .bool (M kl).isSome])) w) : wpList P ops Q (o :: rest) a w := by
  refine wpList_plain hg fun K' hK' => ?_
  have hrun := hown.look_ok K ht hz hkey
  unfold Oper.wp
  simp [execOp, hop, hm, hx, hrun, Result.andThen]
  exact hK' _ _ hK
/-- 'm[k] = v' at the operation. -/
theorem wpList_put (hg : o.guard = none) (m x v : Operand) (t : TypeId) (hop : o.op = Op.mapUpdate t m x v)
    (k e : TypeId) (K : Keyed P k) (ht : P.underlying t = some (.map k e)) (b n : Nat) (M : Lit → Option Value)
    (hm : a.eval m = .map (some b)) (hown : OMap w P k b n M) (hn : n < maxLen) (key val : Value) (kl : Lit) (hx : a.eval x = key) (hv : a.eval v = val) (hkey : keyOf P k key = some kl)
    (hK : ∀ w', OMap w' P k b (n + 1) (putM M kl val) → w.grownBy w' (some b) → wpList P ops Q rest (a.put o.dst undef) w') : wpList P ops Q (o :: rest) a w := by
  refine wpList_plain hg fun K' hK' => ?_
  obtain ⟨w', hrun, r1, r2⟩ := hown.store K ht hn hkey val
  unfold Oper.wp
  simp [execOp, hop, hm, hx, hv, hrun, Result.andThen]
  exact hK' _ _ (hK w' r1 r2)
end
end Go.Proofs.Ytljojgpjgjfddaa
