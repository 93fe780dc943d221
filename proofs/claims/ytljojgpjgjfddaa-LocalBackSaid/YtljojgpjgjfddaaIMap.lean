/- Maps from ints to ints as lists of entries (each key once). No program in sight. -/
import Derived.Test.YtljojgpjgjfddaaGValid
import Derived.Lib.SlKeysI
namespace Go.Proofs.Ytljojgpjgjfddaa
open Go.RowKit Go.Maps
set_option linter.unusedVariables false

abbrev Ens := List (Int × Int)
def lookE (E : Ens) (x : Int) : Option Int := (E.find? fun p => p.1 == x).map (·.2)
def putE (E : Ens) (x v : Int) : Ens := E.filter (fun p => p.1 != x) ++ [(x, v)]
def keysE (E : Ens) : List Int := E.map (·.1)

theorem lookE_nil (x : Int) : lookE [] x = none := rfl
theorem lookE_none {E : Ens} {x : Int} : lookE E x = none ↔ x ∉ keysE E := by
  unfold lookE keysE
  rw [Option.map_eq_none_iff, List.find?_eq_none]
  constructor
  · intro h hm
    rw [List.mem_map] at hm
    obtain ⟨p, hp, rfl⟩ := hm
    exact h p hp (by simp)
  · intro h p hp e
    exact h (List.mem_map.2 ⟨p, hp, by simpa using e⟩)
theorem lookE_some {E : Ens} {x : Int} : (lookE E x).isSome = true ↔ x ∈ keysE E := by
  cases h : lookE E x with
  | none => simp [lookE_none.1 h]
  | some v =>
    simp only [Option.isSome_some, true_iff]
    refine Classical.byContradiction fun hn => ?_
    rw [lookE_none.2 hn] at h
    cases h
theorem lookE_mem {E : Ens} {x v : Int} (h : lookE E x = some v) : (x, v) ∈ E := by
  unfold lookE at h
  rw [Option.map_eq_some_iff] at h
  obtain ⟨p, hp, rfl⟩ := h
  have h1 := List.find?_some hp
  have h2 := List.mem_of_find?_eq_some hp
  simp at h1
  rw [← h1]; exact h2
theorem lookE_of_mem {E : Ens} (hn : (keysE E).Nodup) {x v : Int} (h : (x, v) ∈ E) : lookE E x = some v := by
  induction E with
  | nil => cases h
  | cons p l ih =>
    unfold keysE at hn
    rw [List.map_cons, List.nodup_cons] at hn
    rcases List.mem_cons.1 h with e | e
    · subst e; simp [lookE]
    · have hne : p.1 ≠ x := fun ep => hn.1 (by rw [ep]; exact List.mem_map.2 ⟨_, e, rfl⟩)
      have := ih hn.2 e
      unfold lookE at this ⊢
      rw [List.find?_cons]
      simp only [beq_eq_false_iff_ne.2 hne]
      exact this
theorem lookE_put (E : Ens) (x v y : Int) : lookE (putE E x v) y = if y = x then some v else lookE E y := by
  unfold lookE putE
  rw [List.find?_append]
  by_cases h : y = x
  · subst h
    have : (E.filter fun p => p.1 != y).find? (fun p => p.1 == y) = none := by
      rw [List.find?_eq_none]; intro p hp; simp at hp; simp [hp.2]
    simp [this]
  · have e1 : (E.filter fun p => p.1 != x).find? (fun p => p.1 == y) = E.find? fun p => p.1 == y := by
      rw [List.find?_filter]
      congr 1
      funext p
      by_cases hp : p.1 = y
      · have : p.1 ≠ x := fun e => h (hp ▸ e)
        simp [hp, h]
      · simp [hp]
    have e2 : ([(x, v)] : Ens).find? (fun p => p.1 == y) = none := by
      have : ¬ x = y := fun e => h e.symm
      simp [this]
    rw [e1, e2, if_neg h]
    simp
theorem filter_len {E : Ens} (hn : (keysE E).Nodup) (x : Int) : (E.filter fun p => p.1 != x).length + (if (lookE E x).isSome then 1 else 0) = E.length := by
  induction E with
  | nil => rfl
  | cons p l ih =>
    have hn' := hn
    unfold keysE at hn
    rw [List.map_cons, List.nodup_cons] at hn
    have h2 := ih hn.2
    by_cases hp : p.1 = x
    · have hno : lookE l x = none := lookE_none.2 (by rw [← hp]; exact hn.1)
      rw [hno] at h2
      have : lookE (p :: l) x = some p.2 := by simp [lookE, hp]
      rw [this, List.filter_cons]
      simp [hp] at h2 ⊢
      exact h2
    · have : lookE (p :: l) x = lookE l x := by unfold lookE; rw [List.find?_cons]; simp only [beq_eq_false_iff_ne.2 hp]
      rw [this, List.filter_cons, if_pos (by simpa using hp), List.length_cons, List.length_cons]
      omega
theorem putE_length {E : Ens} (hn : (keysE E).Nodup) (x v : Int) : (putE E x v).length = if (lookE E x).isSome then E.length else E.length + 1 := by
  have := filter_len hn x
  unfold putE
  rw [List.length_append]
  cases h : (lookE E x).isSome <;> simp [h] at this ⊢ <;> omega
theorem putE_nodup {E : Ens} (hn : (keysE E).Nodup) (x v : Int) : (keysE (putE E x v)).Nodup := by
  unfold keysE putE at *
  rw [List.map_append, List.nodup_append]
  refine ⟨?_, by simp, ?_⟩
  · exact (hn.sublist ((List.filter_sublist).map _))
  · intro a ha b hb
    simp at hb
    subst hb
    rw [List.mem_map] at ha
    obtain ⟨p, hp, rfl⟩ := ha
    simpa using (List.mem_filter.1 hp).2
theorem putE_new {E : Ens} {x : Int} (h : x ∉ keysE E) (v : Int) : putE E x v = E ++ [(x, v)] := by
  unfold putE
  rw [List.filter_eq_self.2]
  intro p hp
  have : p.1 ≠ x := fun e => h (List.mem_map.2 ⟨p, hp, e⟩)
  simpa using this

/-- A datum holds exactly the entries E. -/
structure Ents {H : Type} (D : DataW H) (E : Ens) : Prop where
  nodup : (keysE E).Nodup
  wfk : ∀ p ∈ E, (Lit.int .i64 p.1).wf = true
  wfv : ∀ p ∈ E, (Lit.int .i64 p.2).wf = true
  has_ : ∀ x : Int, Maps.has D (.int .i64 x) = (lookE E x).isSome
  at_ : ∀ (x : Int) (z : DataW H), D.atKey (.int .i64 x) z = match lookE E x with | some v => .lit (.int .i64 v) | none => z
  size_ : Maps.size D = E.length

theorem Ents.nil {H : Type} : Ents (.map [] : DataW H) [] := ⟨List.nodup_nil, by simp, by simp, fun _ => rfl, fun _ _ => rfl, rfl⟩
theorem isKeyLit_int (x : Int) : WideAt.IsKeyLit (.int .i64 x) := trivial
theorem Ents.put {H : Type} {D : DataW H} {E : Ens} (h : Ents D E) (ht : Tidy D) {x v : Int} (hx : (Lit.int .i64 x).wf = true) (hv : (Lit.int .i64 v).wf = true) : Ents (D.put (.int .i64 x) (.lit (.int .i64 v))) (putE E x v) := by
  refine ⟨putE_nodup h.nodup x v, ?_, ?_, fun y => ?_, fun y z => ?_, ?_⟩
  · intro p hp
    unfold putE at hp
    rcases List.mem_append.1 hp with hp | hp
    · exact h.wfk p ((List.mem_filter.1 hp).1)
    · simp at hp; subst hp; exact hx
  · intro p hp
    unfold putE at hp
    rcases List.mem_append.1 hp with hp | hp
    · exact h.wfv p ((List.mem_filter.1 hp).1)
    · simp at hp; subst hp; exact hv
  · rw [lookE_put]
    by_cases e : y = x
    · subst e; rw [if_pos rfl]; exact has_put_same ht.isMap (isKeyLit_int y) _
    · rw [if_neg e, has_put_other (by simp [e])]; exact h.has_ y
  · rw [lookE_put]
    by_cases e : y = x
    · subst e; rw [if_pos rfl]; exact atKey_put_same ht.isMap (isKeyLit_int y) _ _
    · rw [if_neg e, atKey_put_other (by simp [e])]; exact h.at_ y z
  · rw [size_put ht, h.has_ x, putE_length h.nodup, h.size_]

/-- Block b is a map with the entries E. -/
def IMap (P : Program) (k e : TypeId) (w : World) (b : Nat) (E : Ens) : Prop := ∃ (H : Type) (D : DataW H), w.ownsMap P k (plainElem P e) b E.length D ∧ Ents D E
/-- A map's value, nil or not. -/
def IMapV (P : Program) (k e : TypeId) (w : World) (m : Option Nat) (E : Ens) : Prop := (m = none ∧ E = []) ∨ ∃ b, m = some b ∧ IMap P k e w b E

section
variable {P : Program} {k e t : TypeId} {w w' : World} {b : Nat} {m : Option Nat} {E : Ens}
theorem IMap.nodup (h : IMap P k e w b E) : (keysE E).Nodup := by obtain ⟨_, _, _, h⟩ := h; exact h.nodup
theorem IMap.wfk (h : IMap P k e w b E) : ∀ p ∈ E, (Lit.int .i64 p.1).wf = true := by obtain ⟨_, _, _, h⟩ := h; exact h.wfk
theorem IMap.wfv (h : IMap P k e w b E) : ∀ p ∈ E, (Lit.int .i64 p.2).wf = true := by obtain ⟨_, _, _, h⟩ := h; exact h.wfv
theorem IMap.lt (h : IMap P k e w b E) : b < w.heap.size := by obtain ⟨_, _, h, _⟩ := h; exact h.lt
theorem IMap.made (w : World) (P : Program) (k e : TypeId) : IMap P k e (w.alloc (.map #[] 0)) w.heap.size [] := ⟨Unit, .map [], World.ownsMap_made w P k _, Ents.nil⟩
theorem IMap.kept {row : Option Nat} (h : IMap P k e w b E) (hg : w.grownBy w' row) (hne : some b ≠ row) : IMap P k e w' b E := by
  obtain ⟨H, D, h, h2⟩ := h; exact ⟨H, D, h.kept hg hne, h2⟩
theorem IMap.alloc (h : IMap P k e w b E) (o : Obj) : IMap P k e (w.alloc o) b E := by obtain ⟨H, D, h, h2⟩ := h; exact ⟨H, D, h.alloc o, h2⟩
theorem IMap.drew (h : IMap P k e w b E) : IMap P k e w.drew b E := h
theorem IMap.drewN (h : IMap P k e w b E) (q : Nat) : IMap P k e (w.drewN q) b E := h
theorem IMap.setCell (h : IMap P k e w b E) {a : Addr} (ha : b ≠ a.block) (u : Value) : IMap P k e (w.setCell a u) b E := by obtain ⟨H, D, h, h2⟩ := h; exact ⟨H, D, h.setCell ha u, h2⟩
theorem IMap.below {B : Nat} (h : IMap P k e w b E) (hb : Below B w w') (hlt : b < B) : IMap P k e w' b E := by
  obtain ⟨H, D, ⟨es, clock, e, F⟩, h2⟩ := h
  exact ⟨H, D, ⟨es, clock, (hb.block b hlt).trans e, F⟩, h2⟩
/-- The block is no row of cells. -/
theorem IMap.noCell (h : IMap P k e w b E) (o : Nat) : w.cell? ⟨b, o, none⟩ = none := by
  obtain ⟨H, D, ⟨es, clock, e, F⟩, h2⟩ := h
  simp [World.cell?, e]
theorem IMap.ne_cell (h : IMap P k e w b E) {g o : Nat} {v : Value} (hc : w.cell? ⟨g, o, none⟩ = some v) : b ≠ g := by
  rintro rfl
  rw [h.noCell] at hc; cases hc
theorem IMap.ne_blk (h : IMap P k e w b E) {g t : Nat} {cs : Array Value} (hc : Blk w g t cs) : b ≠ g := by
  rintro rfl
  obtain ⟨H, D, ⟨es, clock, e, F⟩, h2⟩ := h
  unfold Blk at hc
  rw [hc] at e; cases e
theorem IMap.ne_own (h : IMap P k e w b E) {base : Nat} {el : TypeId} {size n : Nat} {v : Value} {xs : List Value} (ho : w.ownsRow base el size v n xs) : some b ≠ v.ownBlock := by
  rcases ho.2 with ⟨rfl, _⟩ | ⟨g', cap, cur, rfl, _, hh, _⟩
  · simp [Value.ownBlock]
  · intro he
    have : b = g' := by simpa [Value.ownBlock] using he
    subst this
    exact h.ne_blk (g := b) (t := el) (cs := cur) hh rfl

theorem IMap.keyed (hk : P.underlying k = some (.int .i64)) : Keyed P k := int_keyed hk
theorem IMap.look (h : IMap P k e w b E) (hk : P.underlying k = some (.int .i64)) (he : P.underlying e = some (.int .i64)) (ht : P.underlying t = some (.map k e)) (hz : (zeroValue e).run P w = .ok (.int .i64 0) w) {x : Int} (hx : (Lit.int .i64 x).wf = true) :
    (Instr.lookup t (.map (some b)) (.int .i64 x) false).run P w = .ok (.int .i64 ((lookE E x).getD 0)) w := by
  obtain ⟨H, D, h, h2⟩ := h
  obtain ⟨v, ps, hrun, hv⟩ := h.lookup (IMap.keyed hk) ht hz (zd := .lit (.int .i64 0)) (zp := []) (plainElem_int he (by decide)) (keyOf_int_mk hk hx)
  rw [h2.at_ x] at hv
  obtain ⟨c, rfl, hc, hwc⟩ := plainElem_int_inv he hv
  simp only [Prod.mk.injEq] at hc
  cases hl : lookE E x with
  | none => rw [hl] at hc; simp at hc; rw [hrun]; simp [hc.1]
  | some v => rw [hl] at hc; simp at hc; rw [hrun]; simp [hc.1]
theorem IMap.look_ok (h : IMap P k e w b E) (hk : P.underlying k = some (.int .i64)) (he : P.underlying e = some (.int .i64)) (ht : P.underlying t = some (.map k e)) (hz : (zeroValue e).run P w = .ok (.int .i64 0) w) {x : Int} (hx : (Lit.int .i64 x).wf = true) :
    (Instr.lookup t (.map (some b)) (.int .i64 x) true).run P w = .ok (.tuple #[.int .i64 ((lookE E x).getD 0), .bool (lookE E x).isSome]) w := by
  obtain ⟨H, D, h, h2⟩ := h
  obtain ⟨v, ps, hrun, hv⟩ := h.look_ok (IMap.keyed hk) ht hz (zd := .lit (.int .i64 0)) (zp := []) (plainElem_int he (by decide)) (keyOf_int_mk hk hx)
  rw [h2.at_ x] at hv
  obtain ⟨c, rfl, hc, hwc⟩ := plainElem_int_inv he hv
  simp only [Prod.mk.injEq] at hc
  rw [h2.has_ x] at hrun
  cases hl : lookE E x with
  | none => rw [hl] at hc hrun; simp at hc; rw [hrun]; simp [hc.1]
  | some v => rw [hl] at hc hrun; simp at hc; rw [hrun]; simp [hc.1]
theorem IMap.len (h : IMap P k e w b E) (ht : P.underlying t = some (.map k e)) (ty : TypeId) : (Builtin.len_ #[t] ty #[.map (some b)]).run P w = .ok (.int .i64 E.length) w := by
  obtain ⟨H, D, h, h2⟩ := h
  rw [h.len ht ty, h2.size_]
theorem IMap.store (h : IMap P k e w b E) (hk : P.underlying k = some (.int .i64)) (he : P.underlying e = some (.int .i64)) (ht : P.underlying t = some (.map k e)) (hn : E.length < maxLen) {x v : Int} (hx : (Lit.int .i64 x).wf = true) (hv : (Lit.int .i64 v).wf = true) :
    ∃ w', (Instr.mapUpdate t (.map (some b)) (.int .i64 x) (.int .i64 v)).run P w = .ok () w' ∧ IMap P k e w' b (putE E x v) ∧ w.grownBy w' (some b) := by
  obtain ⟨H, D, h, h2⟩ := h
  obtain ⟨w', hrun, h3, hg⟩ := h.update (IMap.keyed hk) ht hn (keyOf_int_mk hk hx) (val := .int .i64 v) (d := .lit (.int .i64 v)) (ps := []) (plainElem_int he hv)
  have h4 := h2.put (h.tidy (IMap.keyed hk)) hx hv
  refine ⟨w', hrun, ⟨H, _, ?_, h4⟩, hg⟩
  obtain ⟨es, clock, hb, F, hs, hD⟩ := h3
  refine ⟨es, clock, hb, F, ?_, hD⟩
  have e1 := h4.size_
  rw [hD, size_eq, length_sorted, List.length_map, Array.length_toList] at e1
  omega
theorem IMap.keys {H : Type} {D : DataW H} (hk : P.underlying k = some (.int .i64)) {R : Value → Option (DataW H × List MemPlace)} {n : Nat} (h : w.ownsMap P k R b n D) (h2 : Ents D E) : (keysE E).Perm (intKeys D) := by
  obtain ⟨es, hD, hpw, _⟩ := h.entries (IMap.keyed hk)
  obtain ⟨es', hD', hko⟩ := h.keysOf
  obtain rfl : es = es' := by rw [hD] at hD'; simpa using hD'
  subst hD
  refine perm_intKeys hpw (fun p hp => by obtain ⟨v, hv⟩ := hko p hp; obtain ⟨x, _, hx, _⟩ := Maps.keyOf_i64 hk hv; exact ⟨x, hx⟩) h2.nodup (fun x => ?_)
  rw [h2.has_ x, lookE_some]

theorem IMapV.below {B : Nat} (h : IMapV P k e w m E) (hb : Below B w w') (hB : w.heap.size ≤ B) : IMapV P k e w' m E := by
  rcases h with h | ⟨b, rfl, h⟩
  · exact .inl h
  · exact .inr ⟨b, rfl, h.below hb (Nat.lt_of_lt_of_le h.lt hB)⟩
theorem IMapV.kept {row : Option Nat} (h : IMapV P k e w m E) (hg : w.grownBy w' row) (hne : ∀ b, m = some b → some b ≠ row) : IMapV P k e w' m E := by
  rcases h with h | ⟨b, rfl, h⟩
  · exact .inl h
  · exact .inr ⟨b, rfl, h.kept hg (hne b rfl)⟩
theorem IMapV.nodup (h : IMapV P k e w m E) : (keysE E).Nodup := by
  rcases h with ⟨_, rfl⟩ | ⟨b, rfl, h⟩
  · exact List.nodup_nil
  · exact h.nodup
theorem IMapV.wfk (h : IMapV P k e w m E) : ∀ p ∈ E, (Lit.int .i64 p.1).wf = true := by
  rcases h with ⟨_, rfl⟩ | ⟨b, rfl, h⟩
  · simp
  · exact h.wfk
theorem IMapV.look (h : IMapV P k e w m E) (hk : P.underlying k = some (.int .i64)) (he : P.underlying e = some (.int .i64)) (ht : P.underlying t = some (.map k e)) (hz : (zeroValue e).run P w = .ok (.int .i64 0) w) {x : Int} (hx : (Lit.int .i64 x).wf = true) :
    (Instr.lookup t (.map m) (.int .i64 x) false).run P w = .ok (.int .i64 ((lookE E x).getD 0)) w := by
  rcases h with ⟨rfl, rfl⟩ | ⟨b, rfl, h⟩
  · exact Maps.look_nil false (IMap.keyed hk) ht hz (keyOf_int_mk hk hx)
  · exact h.look hk he ht hz hx
theorem IMapV.look_ok (h : IMapV P k e w m E) (hk : P.underlying k = some (.int .i64)) (he : P.underlying e = some (.int .i64)) (ht : P.underlying t = some (.map k e)) (hz : (zeroValue e).run P w = .ok (.int .i64 0) w) {x : Int} (hx : (Lit.int .i64 x).wf = true) :
    (Instr.lookup t (.map m) (.int .i64 x) true).run P w = .ok (.tuple #[.int .i64 ((lookE E x).getD 0), .bool (lookE E x).isSome]) w := by
  rcases h with ⟨rfl, rfl⟩ | ⟨b, rfl, h⟩
  · exact Maps.look_nil true (IMap.keyed hk) ht hz (keyOf_int_mk hk hx)
  · exact h.look_ok hk he ht hz hx
theorem IMapV.len (h : IMapV P k e w m E) (ht : P.underlying t = some (.map k e)) (ty : TypeId) : (Builtin.len_ #[t] ty #[.map m]).run P w = .ok (.int .i64 E.length) w := by
  rcases h with ⟨rfl, rfl⟩ | ⟨b, rfl, h⟩
  · exact Maps.len_nil ht ty
  · exact h.len ht ty
end

end Go.Proofs.Ytljojgpjgjfddaa
