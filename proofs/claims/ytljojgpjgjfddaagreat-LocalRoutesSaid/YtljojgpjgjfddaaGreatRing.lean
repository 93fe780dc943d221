/- The plain values of the law's circle of switches; rows that a call owns, several at once. No program in sight. -/
import Derived.Test.YtljojgpjgjfddaaGreatCAbove
namespace Go.Proofs.YtljojgpjgjfddaaGreat
open Go.RowKit Go.Maps
set_option linter.unusedVariables false
set_option linter.unusedSimpArgs false

/-- A row of the call's own: its slice, its cells. -/
structure Slot where
  v : Value
  e : TypeId
  size : Nat
  n : Nat
  xs : List Value
def apart (s t : Slot) : Prop := ∀ g, s.v.ownBlock = some g → t.v.ownBlock ≠ some g
def Slots (w : World) (base : Nat) (S : List Slot) : Prop :=
  (∀ s ∈ S, w.ownsRow base s.e s.size s.v s.n s.xs) ∧ S.Pairwise apart
theorem apart_symm {s t : Slot} (h : apart s t) : apart t s := fun g hg hs => h g hs hg
section
variable {w w' : World} {base : Nat} {S T : List Slot} {s : Slot}
theorem Slots.perm (h : Slots w base S) (p : S.Perm T) : Slots w base T :=
  ⟨fun s hs => h.1 s (p.mem_iff.2 hs), p.pairwise h.2 (fun {_ _} => apart_symm)⟩
theorem Slots.head (h : Slots w base (s :: S)) : w.ownsRow base s.e s.size s.v s.n s.xs := h.1 s (List.mem_cons_self ..)
theorem Slots.alloc (h : Slots w base S) (o : Obj) : Slots (w.alloc o) base S := ⟨fun s hs => (h.1 s hs).alloc o, h.2⟩
theorem Slots.drew (h : Slots w base S) : Slots w.drew base S := h
/-- A write below the base keeps all. -/
theorem Slots.low (h : Slots w base S) {g : Nat} (hg : w.grownBy w' (some g)) (hb : g < base) : Slots w' base S :=
  ⟨fun s hs => own_keptJ (h.1 s hs) hg (fun q hq => by have := ((h.1 s hs).lt q hq).1; omega), h.2⟩
/-- append at the first one. -/
theorem Slots.push (h : Slots w base (s :: S)) {v' : Value} {n' : Nat} {xs' : List Value} (o : w'.ownsRow base s.e s.size v' n' xs') (hg : w.grownBy w' s.v.ownBlock) (hv : v'.ownBlock = s.v.ownBlock ∨ v'.ownBlock = some w.heap.size) :
    Slots w' base (⟨v', s.e, s.size, n', xs'⟩ :: S) := by
  obtain ⟨h1, h2⟩ := h
  rw [List.pairwise_cons] at h2
  refine ⟨fun t ht => ?_, ?_⟩
  · rcases List.mem_cons.1 ht with rfl | ht
    · exact o
    · have ho := h1 t (List.mem_cons_of_mem _ ht)
      refine ho.kept hg ?_
      cases hb : t.v.ownBlock with
      | none => exact .inl rfl
      | some q => exact .inr (fun e => h2.1 t ht q e.symm hb)
  · rw [List.pairwise_cons]
    refine ⟨fun t ht g hgv htv => ?_, h2.2⟩
    have hvg : v'.ownBlock = some g := hgv
    rcases hv with hv | hv
    · exact h2.1 t ht g (hv.symm.trans hvg) htv
    · have := ((h1 t (List.mem_cons_of_mem _ ht)).lt g htv).2
      rw [hv] at hvg
      injection hvg with hvg
      omega
theorem Slots.empty (h : Slots w base S) (e : TypeId) (size : Nat) : Slots w base (⟨.slice none 0 0, e, size, 0, []⟩ :: S) := by
  refine ⟨fun t ht => ?_, ?_⟩
  · rcases List.mem_cons.1 ht with rfl | ht
    · exact World.ownsRow_nil _ _ _ _
    · exact h.1 t ht
  · rw [List.pairwise_cons]
    exact ⟨fun t ht g hg => by simp [Value.ownBlock] at hg, h.2⟩
theorem Slots.nil (w : World) (base : Nat) : Slots w base [] := ⟨by simp, List.Pairwise.nil⟩
end

/-! The circle. -/
def ringNd (i : Nat) : Nd := ⟨⟨#[115]⟩ ++ Go.Utf8.encode (97 + (i : Int)), true, 2⟩
def ringCb (n i : Nat) : Cb := ⟨i, 0, (((i + 1) % n : Nat) : Int), 1, 1, 1⟩
def ringLv (n i : Nat) : Int := min (i : Int) ((n : Int) - i)
def ringC (i d : Nat) : Int := if d = i then -2 else i
def ringRow (n i : Nat) : List Int := (List.range n).map (ringC i)
def ringP (n : Nat) : Pl := ⟨(List.range n).map ringNd, (List.range n).map (ringCb n)⟩
def ringL (n : Nat) : List Int := (List.range n).map (ringLv n)
def ringT (n : Nat) : List Row2 := (List.range n).map fun i => (ringRow n i, ringRow n i)

/-- The finished rows of the table: their two slices. -/
abbrev Fin2 := Value × Value × List Int
def cF (q : Fin2) : List Value := [q.1, q.2.1]
def slF (tInt n : Nat) (q : Fin2) : List Slot := [⟨q.1, tInt, 1, n, q.2.2.flatMap cI⟩, ⟨q.2.1, tInt, 1, n, q.2.2.flatMap cI⟩]
theorem isTab_of_slots {w : World} {base tInt tArr n k : Nat} {v : Value} {L : List Fin2} (h : w.ownsRow base tArr 2 v k (L.flatMap cF)) (hs : Slots w base (L.flatMap (slF tInt n))) :
    ∃ a cap, v = .slice a k cap ∧ k ≤ cap ∧ IsTab w a k (L.map fun q => (q.2.2, q.2.2)) := by
  obtain ⟨a, cap, hv, hkc, hr, _⟩ := rec_of_own (d := ((.slice none 0 0, .slice none 0 0, []) : Fin2)) (c := cF) (fun _ => rfl) (by decide) h
  refine ⟨a, cap, hv, hkc, by rw [List.length_map]; exact hr.1, fun h0 => ?_⟩
  obtain ⟨b, off, ha, hb, hc⟩ := hr.2 h0
  refine ⟨b, off, ha, hb, fun i hi => ?_⟩
  have hi' : i < L.length := by rw [hr.1]; exact hi
  have c0 := hc i 0 hi (by omega)
  have c1 := hc i 1 hi (by omega)
  have e : (L.map fun q => (q.2.2, q.2.2)).getD i row0 = ((L.getD i (.slice none 0 0, .slice none 0 0, [])).2.2, (L.getD i (.slice none 0 0, .slice none 0 0, [])).2.2) := by simp [List.getD, hi']
  rw [e]
  have hm : L.getD i (.slice none 0 0, .slice none 0 0, []) ∈ L := by simp [List.getD, hi']
  generalize L.getD i (.slice none 0 0, .slice none 0 0, []) = q at *
  obtain ⟨q0, q1, l⟩ := q
  have s0 := hs.1 ⟨q0, tInt, 1, n, l.flatMap cI⟩ (List.mem_flatMap.2 ⟨_, hm, by simp [slF]⟩)
  have s1 := hs.1 ⟨q1, tInt, 1, n, l.flatMap cI⟩ (List.mem_flatMap.2 ⟨_, hm, by simp [slF]⟩)
  obtain ⟨a0, p0, v0, _, r0, _⟩ := rec_of_own (d := (0 : Int)) cI_length (by decide) s0
  obtain ⟨a1, p1, v1, _, r1, _⟩ := rec_of_own (d := (0 : Int)) cI_length (by decide) s1
  simp only at v0 v1 r0 r1
  have hl : l.length = n := r0.1
  subst v0
  subst v1
  simp only [cF] at c0 c1
  refine ⟨a0, p0, a1, p1, ?_, ?_, ?_, ?_⟩
  · rw [Nat.add_zero] at c0; rw [c0, hl]; rfl
  · rw [c1, hl]; rfl
  · rw [hl]; exact r0
  · rw [hl]; exact r1
end Go.Proofs.YtljojgpjgjfddaaGreat
