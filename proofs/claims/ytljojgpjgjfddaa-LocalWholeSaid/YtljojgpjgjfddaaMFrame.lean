/- What a walk is told of an argument that is a part (a struct with a map). -/
import Derived.Test.YtljojgpjgjfddaaPFrame
import Derived.Test.YtljojgpjgjfddaaLPart
import Derived.Lib.SmallJoins
import Derived.WideKeyElems2
import Derived.Maps.OwnSet
import Derived.Maps.Range
import Derived.Maps.RangeWalk
namespace Go.Proofs.Ytljojgpjgjfddaa
open Go.ChangeShapes Go.WideShapes Go.ChangeAt Go.RowKit Go.Deep
open Go.WideElems (rg rd rd_key elemAt)
set_option linter.unusedVariables false

/-- An entry as it stands in a datum. -/
def enL (H : Type) (p : Int × Int) : Lit × DataW H := (.int .i64 p.1, .lit (.int .i64 p.2))
theorem as_ens {H : Type} (L : List (Lit × DataW H)) (h : ∀ p ∈ L, ∃ x v : Int, p = (.int .i64 x, .lit (.int .i64 v)) ∧ (Lit.int .i64 x).wf = true ∧ (Lit.int .i64 v).wf = true) :
    ∃ E : Ens, L = E.map (enL H) ∧ (∀ p ∈ E, (Lit.int .i64 p.1).wf = true) ∧ ∀ p ∈ E, (Lit.int .i64 p.2).wf = true := by
  induction L with
  | nil => exact ⟨[], rfl, by simp, by simp⟩
  | cons q l ih =>
    obtain ⟨E, e, h1, h2⟩ := ih fun p hp => h p (List.mem_cons_of_mem _ hp)
    obtain ⟨x, v, rfl, hx, hv⟩ := h q List.mem_cons_self
    refine ⟨(x, v) :: E, by rw [e]; rfl, ?_, ?_⟩ <;> intro p hp <;> rcases List.mem_cons.1 hp with rfl | hp
    · exact hx
    · exact h1 p hp
    · exact hv
    · exact h2 p hp
theorem has_en (H : Type) (E : Ens) (x : Int) : Maps.has (.map (E.map (enL H))) (.int .i64 x) = (lookE E x).isSome := by
  rw [Maps.has_eq]
  induction E with
  | nil => rfl
  | cons p l ih =>
    by_cases hp : p.1 = x
    · simp [enL, Lit.sameKey, lookE, hp]
    · have e : lookE (p :: l) x = lookE l x := by unfold lookE; rw [List.find?_cons]; simp only [beq_eq_false_iff_ne.2 hp]
      rw [e, ← ih]
      simp [enL, Lit.sameKey, hp]
theorem at_en (H : Type) (E : Ens) (x : Int) (z : DataW H) : DataW.atKey (.map (E.map (enL H))) (.int .i64 x) z = match lookE E x with | some v => .lit (.int .i64 v) | none => z := by
  induction E with
  | nil => rfl
  | cons p l ih =>
    by_cases hp : p.1 = x
    · simp [DataW.atKey, enL, Lit.sameKey, lookE, hp]
    · have e : lookE (p :: l) x = lookE l x := by unfold lookE; rw [List.find?_cons]; simp only [beq_eq_false_iff_ne.2 hp]
      rw [e, ← ih]
      simp [DataW.atKey, enL, Lit.sameKey, hp]
theorem ents_en (H : Type) {E : Ens} (hn : (keysE E).Nodup) (h1 : ∀ p ∈ E, (Lit.int .i64 p.1).wf = true) (h2 : ∀ p ∈ E, (Lit.int .i64 p.2).wf = true) : Ents (.map (E.map (enL H))) E :=
  ⟨hn, h1, h2, has_en H E, at_en H E, by rw [Maps.size_eq]; simp⟩
theorem nodup_en {H : Type} {E : Ens} (h : (E.map (enL H)).Pairwise fun p q => p.1 ≠ q.1) : (keysE E).Nodup := by
  unfold keysE List.Nodup
  rw [List.pairwise_map] at h ⊢
  refine h.imp ?_
  intro a b hab e
  exact hab (by simp [enL, e])

section
variable {H : Type} {enc : TypeId × Value → H} {w : World} {base : Nat} {spare : Nat → Bool} {held : Bool}
theorem imv_of {P : Program} {k e t : TypeId} {fuel : Nat} {v : Value} {y : DataW H × List MemPlace} (K : Maps.Keyed P k) (hk : P.underlying k = some (.int .i64)) (he : P.underlying e = some (.int .i64)) (ht : P.underlying t = some (.map k e))
    (h : DataW.trod enc P w base spare held fuel t [v] = some y) : ∃ (m : Option Nat) (E : Ens), v = .map m ∧ IMapV P k e w m E := by
  rcases WideElems.open_map ht h with ⟨hcs, _⟩ | ⟨b, es, clock, n, rfl, hcs, hb, _, F, _⟩
  · simp at hcs
    exact ⟨none, [], hcs, Or.inl ⟨rfl, rfl⟩⟩
  · simp at hcs
    have hown := World.ownsMap_of_fit (R := plainElem P e) hb F (fun x _ z hz => elemAt_plainElem_int he hz)
    obtain ⟨L, hL, hpw, _⟩ := hown.entries K
    obtain ⟨es', clock', hb', F', hle, hD⟩ := id hown
    have hlen : L.length = es.size := by
      have := length_read (P := P) (k := k) (R0 := elemAt enc P w base spare held n e) es
      injection hL with hL
      rw [← hL]; exact this
    have hall : ∀ p ∈ L, ∃ x v : Int, p = (.int .i64 x, .lit (.int .i64 v)) ∧ (Lit.int .i64 x).wf = true ∧ (Lit.int .i64 v).wf = true := by
      intro p hp
      rw [hL] at hD
      injection hD with hD
      rw [hD] at hp
      obtain ⟨x, hx, rfl⟩ := List.mem_map.1 (mem_sorted.1 hp)
      obtain ⟨y, hy⟩ := F'.reads x hx
      have e1 : rg P k (plainElem P e) x = y := by unfold rg; rw [hy]; rfl
      rw [e1]
      have h1 := rd_key hy
      unfold rd at hy
      simp only [Option.bind_eq_some_iff, Option.map_eq_some_iff] at hy
      obtain ⟨kl, hkl, z, hz, rfl⟩ := hy
      obtain ⟨xi, _, rfl, hwx⟩ := Maps.keyOf_int_inv hk hkl
      obtain ⟨vi, _, rfl, hwv⟩ := plainElem_int_inv he hz
      exact ⟨xi, vi, rfl, hwx, hwv⟩
    obtain ⟨E, rfl, h1, h2⟩ := as_ens L hall
    refine ⟨some b, E, hcs, Or.inr ⟨b, rfl, H, .map (E.map (enL H)), ?_, ents_en H (nodup_en hpw) h1 h2⟩⟩
    rw [← hL]
    have : E.length = es.size := by rw [← hlen]; simp
    rw [this]
    exact hown
set_option maxRecDepth 100000 in
theorem isDeps_of {fuel : Nat} {v : Value} {y : DataW H × List MemPlace} (h : DataW.trod enc Try.prog w base spare held fuel 29 [v] = some y) :
    ∃ (a : Option Addr) (cap : Nat) (xs : List Dp), v = .slice a xs.length cap ∧ IsRec 3 cD d0 w a xs.length xs ∧ WfD xs := by
  obtain ⟨a, len, cap, rfl⟩ := trod_slice_form Try.underlying29 h
  obtain ⟨zs, hz⟩ : ∃ zs, IsStructs 3 w a len zs := isStructs_of Try.underlying29 Try.underlying49 (by kernel_rfl) (by kernel_rfl) (by kernel_rfl) (by kernel_rfl) (by decide) ⟨_, h⟩
  obtain ⟨xs, rfl, h1, h2⟩ := isRec_deps hz
  exact ⟨a, cap, xs, rfl, h1, h2⟩
set_option maxRecDepth 100000 in
theorem isPart_of {r : Reach} {b0 : Nat} {v : Value} {d : DataW H} {p : List MemPlace} (hv : Value.okWide Try.prog w r b0 32 v) (h : DataW.Trod enc Try.prog w base spare held 32 v d p) :
    ∃ (a : Option Addr) (cap : Nat) (m : Option Nat) (x : Pt), v = .agg #[.int .i64 x.node, .slice a x.deps.length cap, .map m] ∧ (Lit.int .i64 x.node).wf = true ∧ IsRec 3 cD d0 w a x.deps.length x.deps ∧ WfD x.deps ∧ IMV w m x.ranks := by
  obtain ⟨v0, v1, v2, y0, y1, y2, n, rfl, _, _, h0, h1, h2⟩ := Joins.open_agg3 Try.underlying32 (by kernel_rfl) (by kernel_rfl) hv h
  obtain ⟨i, hi, _, hw⟩ := DataW.trod_int Try.underlying3 h0
  simp at hi
  subst hi
  obtain ⟨a, cap, ds, rfl, hd, wd⟩ := isDeps_of h1
  obtain ⟨m, E, rfl, hm⟩ := imv_of (Maps.int_keyed Try.underlying3) Try.underlying3 Try.underlying3 Try.underlying30 h2
  exact ⟨a, cap, m, ⟨i, ds, E⟩, rfl, hw, hd, wd, hm⟩
end
end Go.Proofs.Ytljojgpjgjfddaa
