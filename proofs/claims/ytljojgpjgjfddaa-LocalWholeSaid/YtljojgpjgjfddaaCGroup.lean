/- The map from channels to the channels that depend on them, while channel.Cycle builds it; the keys of it, sorted. -/
import Derived.Test.YtljojgpjgjfddaaCUnion
import Derived.Test.YtljojgpjgjfddaaCVisit
namespace Go.Proofs.Ytljojgpjgjfddaa
open Go.RowKit Go.Maps Go.Sort Go.Shelf
set_option linter.unusedVariables false

def nxD (L : List Dp) (c : Int) : List Int := (L.filter fun d => d.1 == c).map (·.2.1)
def nilS : Value := .slice none 0 0
structure GM (w : World) (base b n : Nat) (M : Lit → Option Value) (L : List Dp) : Prop where
  om : OMap w Try.prog 3 b n M
  rows : ∀ c : Int, w.ownsRow base 3 1 ((M (.int .i64 c)).getD nilS) (nxD L c).length ((nxD L c).flatMap cI)
  apart : ∀ c c' : Int, c ≠ c' → ∀ g, ((M (.int .i64 c)).getD nilS).ownBlock = some g → ((M (.int .i64 c')).getD nilS).ownBlock ≠ some g
  keys : ∀ l, (M l).isSome = true ↔ ∃ d ∈ L, l = .int .i64 d.1
theorem nxD_yes (L : List Dp) (d : Dp) : nxD (L ++ [d]) d.1 = nxD L d.1 ++ [d.2.1] := by unfold nxD; simp [List.filter_append]
theorem nxD_no (L : List Dp) (d : Dp) {c : Int} (h : c ≠ d.1) : nxD (L ++ [d]) c = nxD L c := by
  unfold nxD
  have : (d.1 == c) = false := by simpa using fun e => h e.symm
  simp [List.filter_append, this]
theorem nxD_len (L : List Dp) (c : Int) : (nxD L c).length ≤ L.length := by unfold nxD; rw [List.length_map]; exact List.length_filter_le _ _
section
variable {w w' : World} {base b n : Nat} {M : Lit → Option Value} {L : List Dp}
theorem GM.alloc (h : GM w base b n M L) (o : Obj) : GM (w.alloc o) base b n M L := ⟨h.om.alloc o, fun c => (h.rows c).alloc o, h.apart, h.keys⟩
theorem GM.drew (h : GM w base b n M L) : GM w.drew base b n M L := ⟨h.om.drew, fun c => (h.rows c).drew, h.apart, h.keys⟩
theorem GM.made (w : World) (base : Nat) : GM (w.alloc (.map #[] 0)) base w.heap.size 0 (fun _ => none) [] :=
  ⟨OMap.made w Try.prog 3, fun c => World.ownsRow_nil _ _ _ _, fun c c' _ g h => by simp [nilS, Value.ownBlock] at h, fun l => by simp⟩
theorem GM.below {B : Nat} (h : GM w base b n M L) (hb : Below B w w') (hB : w.heap.size ≤ B) : GM w' base b n M L := by
  refine ⟨h.om.below hb (by have := h.om.lt; omega), fun c => ?_, h.apart, h.keys⟩
  have hg : w.grownBy w' none := ⟨hb.os, hb.tape, hb.output, hb.size, fun i hi _ => hb.block i (by omega)⟩
  exact (h.rows c).kept hg (Classical.em _)
theorem sameKey_int (x y : Int) : (Lit.int .i64 x).sameKey (.int .i64 y) = (x == y) := by rw [Bool.eq_iff_iff]; simp [Lit.sameKey]
/-- One more dependency. -/
theorem GM.step {w2 w5 : World} {df dt dn : Int} {v2 : Value} (h : GM w base b n M L) (hbb : b < base)
    (own2 : w2.ownsRow base 3 1 v2 ((nxD L df).length + 1) ((nxD L df).flatMap cI ++ [.int .i64 dt])) (g2 : w.grownBy w2 ((M (.int .i64 df)).getD nilS).ownBlock) (loc : v2.ownBlock = ((M (.int .i64 df)).getD nilS).ownBlock ∨ v2.ownBlock = some w.heap.size)
    (om5 : OMap w5 Try.prog 3 b (n + 1) (putM M (.int .i64 df) v2)) (g5 : w2.grownBy w5 (some b)) : GM w5 base b (n + 1) (putM M (.int .i64 df) v2) (L ++ [(df, dt, dn)]) := by
  have pm : ∀ c : Int, (putM M (.int .i64 df) v2 (.int .i64 c)).getD nilS = if c = df then v2 else (M (.int .i64 c)).getD nilS := by
    intro c
    unfold putM
    rw [sameKey_int]
    by_cases e : c = df
    · simp [e]
    · simp [e]
  refine ⟨om5, fun c => ?_, fun c c' hne g hg => ?_, fun l => ?_⟩
  · rw [pm]
    by_cases e : c = df
    · subst e
      rw [if_pos rfl]
      have h1 := own_keptJ own2 g5 (fun q hq => by have := (own2.lt q hq).1; omega)
      have := nxD_yes L (c, dt, dn)
      simp only at this
      rw [this, List.length_append, List.flatMap_append]
      exact h1
    · rw [if_neg e, nxD_no L (df, dt, dn) e]
      have h1 : w2.ownsRow base 3 1 ((M (.int .i64 c)).getD nilS) (nxD L c).length ((nxD L c).flatMap cI) := (h.rows c).kept g2 (by
        cases hb : ((M (.int .i64 c)).getD nilS).ownBlock with
        | none => exact .inl rfl
        | some q => exact .inr (fun e2 => h.apart c df e q hb e2.symm))
      exact own_keptJ h1 g5 (fun q hq => by have := (h1.lt q hq).1; omega)
  · rw [pm] at hg ⊢
    have old : ∀ c, ∀ g, ((M (.int .i64 c)).getD nilS).ownBlock = some g → g < w.heap.size := fun c g hg => ((h.rows c).lt g hg).2
    by_cases e : c = df
    · subst e
      rw [if_pos rfl] at hg
      rw [if_neg (fun e2 => hne e2.symm)]
      rcases loc with l1 | l1
      · rw [l1] at hg; exact h.apart c c' hne g hg
      · rw [l1] at hg
        injection hg with hg
        intro h2
        have := old c' g h2
        omega
    · rw [if_neg e] at hg
      by_cases e2 : c' = df
      · subst e2
        rw [if_pos rfl]
        rcases loc with l1 | l1
        · rw [l1]; exact h.apart c c' hne g hg
        · rw [l1]
          intro h2
          injection h2 with h2
          have := old c g hg
          omega
      · rw [if_neg e2]; exact h.apart c c' hne g hg
  · unfold putM
    by_cases hs : l.sameKey (.int .i64 df) = true
    · rw [if_pos hs]
      simp only [Option.isSome_some, true_iff]
      exact ⟨(df, dt, dn), by simp, WideAt.sameKey_eq hs⟩
    · rw [if_neg hs, h.keys]
      constructor
      · rintro ⟨d, hd, e⟩; exact ⟨d, by simp [hd], e⟩
      · rintro ⟨d, hd, e⟩
        rw [List.mem_append] at hd
        rcases hd with hd | hd
        · exact ⟨d, hd, e⟩
        · simp only [List.mem_singleton] at hd
          subst hd
          exfalso; apply hs
          rw [e]; simp [Lit.sameKey]
end
/-! The keys. -/
def dedI (l : List Int) : List Int := l.foldl (fun acc x => if x ∈ acc then acc else acc ++ [x]) []
theorem dedI_aux (l acc : List Int) (h : acc.Nodup) : (l.foldl (fun acc x => if x ∈ acc then acc else acc ++ [x]) acc).Nodup ∧ ∀ y, y ∈ l.foldl (fun acc x => if x ∈ acc then acc else acc ++ [x]) acc ↔ y ∈ acc ∨ y ∈ l := by
  induction l generalizing acc with
  | nil => exact ⟨h, by simp⟩
  | cons x r ih =>
    rw [List.foldl_cons]
    by_cases hx : x ∈ acc
    · rw [if_pos hx]
      refine ⟨(ih acc h).1, fun y => ?_⟩
      rw [(ih acc h).2 y]
      constructor
      · rintro (h1 | h1)
        · exact .inl h1
        · exact .inr (by simp [h1])
      · rintro (h1 | h1)
        · exact .inl h1
        · rcases List.mem_cons.1 h1 with rfl | h1
          · exact .inl hx
          · exact .inr h1
    · rw [if_neg hx]
      have hn : (acc ++ [x]).Nodup := List.nodup_append.2 ⟨h, by simp, fun a ha b hb => by simp at hb; subst hb; exact fun e => hx (e ▸ ha)⟩
      refine ⟨(ih _ hn).1, fun y => ?_⟩
      rw [(ih _ hn).2 y]
      simp [or_assoc]
theorem dedI_nodup (l : List Int) : (dedI l).Nodup := (dedI_aux l [] List.nodup_nil).1
theorem mem_dedI {l : List Int} {y : Int} : y ∈ dedI l ↔ y ∈ l := by have := (dedI_aux l [] List.nodup_nil).2 y; simpa [dedI] using this
theorem dedI_len (l : List Int) : (dedI l).length ≤ l.length := List.Nodup.length_le_of_subset (dedI_nodup l) (fun x hx => mem_dedI.1 hx)
def keysL (L : List Dp) : List Int := (dedI (L.map (·.1))).mergeSort leI
theorem keysL_len (L : List Dp) : (keysL L).length ≤ L.length := by unfold keysL; rw [List.length_mergeSort]; have := dedI_len (L.map (·.1)); simpa using this
theorem mem_keysL {L : List Dp} {c : Int} : c ∈ keysL L ↔ ∃ d ∈ L, d.1 = c := by unfold keysL; rw [List.mem_mergeSort, mem_dedI, List.mem_map]

theorem sortsAC (m : Nat) : AnyZI.SortsIn Try.prog Try.sortedA_ren Fence.wide m :=
  ⟨fun blk off cap ss W hH hblk hsz => callsIn_wide.2 (AnyM.slices_Sort_int Try.sortA blk off cap ss W hH hblk hsz),
   fun p cap W => callsIn_wide.2 (AnyM.slices_Sort_int_none Try.sortA p cap W)⟩
theorem keysIS_any (m : Option Nat) (w : World) :
    Calls Try.prog 53 #[.map m] w fun e w' => e = .returned (.func (.func 90) #[] #[.pointer (some ⟨w.heap.size, 0, none⟩)]) ∧ w.alloc (.cells #[.map m] 96) = w' :=
  (callsIn_wide (n := 5)).1 ((AnyZI.keys_in Try.keysIS Fence.wide 5 trivial rfl m w).mono fun e w' h => ⟨h.1, h.2.symm⟩)
theorem sortedIS_any (B b n base : Nat) (M : Lit → Option Value) (L : List Dp) (w : World) (hB : B < w.heap.size) (hc : w.cell? ⟨B, 0, none⟩ = some (.map (some b))) (hg : GM w base b n M L) (hl : L.length ≤ 1000000) :
    Calls Try.prog 52 #[.func (.func 90) #[] #[.pointer (some ⟨B, 0, none⟩)]] w (IntsPost (keysL L) w) := by
  refine (callsIn_wide (n := 5)).1 ?_
  obtain ⟨D, hown, hD⟩ := hg.om
  obtain ⟨es, hDe, hpw, hkl⟩ := hown.entries (int_keyed Try.underlying3)
  obtain ⟨es', hDe', hko⟩ := hown.keysOf
  obtain rfl : es = es' := by rw [hDe] at hDe'; simpa using hDe'
  have hints : ∀ p ∈ es, ∃ x, p.1 = .int .i64 x := fun p hp => by obtain ⟨v, hv⟩ := hko p hp; obtain ⟨x, _, hx, _⟩ := Maps.keyOf_i64 Try.underlying3 hv; exact ⟨x, hx⟩
  have hperm : (dedI (L.map (·.1))).Perm (intKeys D) := by
    subst hDe
    refine perm_intKeys hpw hints (dedI_nodup _) fun x => ?_
    rw [(hD _).1, hg.keys, mem_dedI, List.mem_map]
    constructor
    · rintro ⟨d, hd, rfl⟩; exact ⟨d, hd, rfl⟩
    · rintro ⟨d, hd, e⟩; exact ⟨d, hd, by injection e with _ e; exact e.symm⟩
  have hsz : Maps.size D ≤ L.length := by
    have h1 := hperm.length_eq
    have h2 : (intKeys D).length = Maps.size D := by subst hDe; rw [size_eq]; simp [intKeys]
    have := dedI_len (L.map (·.1))
    simp at this
    omega
  have hseq : SeqGives Fence.wide 2 Try.prog 90 #[.pointer (some ⟨B, 0, none⟩)] encZ (fun ss => ss.Perm (intKeys D)) (Maps.size D) w :=
    AnyZI.keys_gives (ρ := Try.keysIS_ren) { Try.keysIS with } Fence.wide _ trivial rfl (by omega) B b _ D w hB hc hown
  have cS := AnyZI.sorted_in Try.sortedA Fence.wide 5 trivial trivial trivial trivial rfl (by omega) (sortsAC _) (enters_of Try.func36 (by kernel_rfl) rfl) 90 #[.pointer (some ⟨B, 0, none⟩)] trivial (enters_of Try.func90 (by kernel_rfl) rfl) _ _ (by unfold maxLen; omega) (by omega) _ hseq
  refine cS.mono ?_
  rintro e w' ⟨v, ss, rfl, hS, hrow, hnil, hb⟩
  have e1 : ss.mergeSort leI = keysL L := mergeSort_of_perm_i (hS.trans hperm.symm)
  refine ⟨v, rfl, ?_, hb⟩
  have e2 : ss.length = (keysL L).length := by rw [← e1, List.length_mergeSort]
  rw [← e2, cI_map, ← e1]
  exact hrow
end Go.Proofs.Ytljojgpjgjfddaa
