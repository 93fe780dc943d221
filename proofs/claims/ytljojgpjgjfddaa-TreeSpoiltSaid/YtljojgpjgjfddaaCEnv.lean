/- The memory of channel.Cycle's search: what stays, what turns; slices.Index at ints, with the place; small laws of the plain search. -/
import Derived.Test.YtljojgpjgjfddaaCBase
import Derived.Test.YtljojgpjgjfddaaCyPlain
namespace Go.Proofs.Ytljojgpjgjfddaa
open Go.RowKit Go.Maps
set_option linter.unusedVariables false

/-- Below B only the blocks X have turned. -/
structure KB (B : Nat) (X : List Nat) (w w' : World) : Prop where
  os : w'.os = w.os
  tape : w'.tape = w.tape
  output : w'.output = w.output
  size : w.heap.size ≤ w'.heap.size
  block : ∀ i, i < B → i ∉ X → w'.heap[i]? = w.heap[i]?
section
variable {B : Nat} {X : List Nat} {w w' w'' : World}
theorem KB.refl (B : Nat) (X : List Nat) (w : World) : KB B X w w := ⟨rfl, rfl, rfl, Nat.le_refl _, fun _ _ _ => rfl⟩
theorem KB.grown {row : Option Nat} (h : KB B X w w') (hB : B ≤ w.heap.size) (hg : w'.grownBy w'' row) (hr : ∀ g, row = some g → g ∈ X ∨ B ≤ g) : KB B X w w'' :=
  ⟨hg.os.trans h.os, hg.tape.trans h.tape, hg.output.trans h.output, Nat.le_trans h.size hg.size, fun i hi hx => (hg.block i (by have := h.size; omega) (fun e => by
    rcases hr i e.symm with h1 | h1
    · exact hx h1
    · omega)).trans (h.block i hi hx)⟩
theorem KB.alloc (h : KB B X w w') (hB : B ≤ w.heap.size) (o : Obj) : KB B X w (w'.alloc o) := h.grown hB (World.grownBy_alloc w' o none) (fun g e => by cases e)
theorem KB.below (h : KB B X w w') (hB : B ≤ w.heap.size) (hb : Below w'.heap.size w' w'') : KB B X w w'' := h.grown hB (only_of_below hb none) (fun g e => by cases e)
theorem KB.setCell (h : KB B X w w') (hB : B ≤ w.heap.size) {p : Addr} (hp : p.block ∈ X ∨ B ≤ p.block) (v : Value) : KB B X w (w'.setCell p v) :=
  ⟨h.os, h.tape, h.output, by simpa [World.setCell] using h.size, fun i hi hx => (Below.heap_setCell w' p v i (by
    rintro rfl
    rcases hp with h1 | h1
    · exact hx h1
    · omega)).trans (h.block i hi hx)⟩
theorem KB.drewN (h : KB B X w w') (n : Nat) : KB B X w (w'.drewN n) := ⟨h.os, h.tape, h.output, h.size, h.block⟩
theorem KB.drew (h : KB B X w w') : KB B X w w'.drew := ⟨h.os, h.tape, h.output, h.size, h.block⟩
theorem KB.blk {g : Nat} {t : TypeId} {cs : Array Value} (h : KB B X w w') (hb : Blk w g t cs) (hg : g < B) (hx : g ∉ X) : Blk w' g t cs := (h.block g hg hx).trans hb
theorem KB.omap {P : Program} {k : TypeId} {b n : Nat} {M : Lit → Option Value} (h : KB B X w w') (hm : OMap w P k b n M) (hg : b < B) (hx : b ∉ X) : OMap w' P k b n M := by
  obtain ⟨D, ⟨es, clock, e, F⟩, h2⟩ := hm
  exact ⟨D, ⟨es, clock, (h.block b hg hx).trans e, F⟩, h2⟩
theorem KB.isRec {α : Type} {m : Nat} {c : α → List Value} {d : α} {a : Option Addr} {len : Nat} {xs : List α} (h : KB B X w w') (hr : IsRec m c d w a len xs) (hB : B = w.heap.size) (hx : ∀ x, a = some x → x.block ∉ X) : IsRec m c d w' a len xs := by
  refine ⟨hr.1, fun h0 => ?_⟩
  obtain ⟨b, off, e, hlt, hc⟩ := hr.2 h0
  refine ⟨b, off, e, by have := h.size; omega, fun i j hi hj => ?_⟩
  rw [World.cell?_of_block (h.block b (by omega) (hx _ e))]; exact hc i j hi hj
theorem KB.toBelow {A : Nat} (h : KB B X w w') (hA : A ≤ B) (hX : ∀ g ∈ X, A ≤ g) : Below A w w' := ⟨h.os, h.tape, h.output, h.size, fun i hi => h.block i (by omega) (fun hm => by have := hX i hm; omega)⟩
end

structure Env where
  B : Nat
  bS : Nat
  Bp : Nat
  Bc : Nat
  Bst : Nat
  Bn : Nat
  Bv : Nat
  bN : Nat
  nN : Nat
  M : Lit → Option Value
  W0 : World
  nx : Int → List Int
def Env.X (e : Env) : List Nat := [e.bS, e.Bp, e.Bc]
def ptr (b : Nat) : Value := .pointer (some ⟨b, 0, none⟩)
def Env.clo (e : Env) : Value := .func (.func 50) #[] #[ptr e.Bst, ptr e.Bp, ptr e.Bc, ptr e.Bn, ptr e.Bv]
structure Env.Ok (e : Env) : Prop where
  hB : e.B = e.W0.heap.size
  lS : e.bS < e.B
  lp : e.Bp < e.B
  lc : e.Bc < e.B
  pc : e.Bp ≠ e.Bc
  stb : Blk e.W0 e.Bst 30 #[.map (some e.bS)]
  stX : e.Bst ∉ e.X
  nb : Blk e.W0 e.Bn 96 #[.map (some e.bN)]
  nX : e.Bn ∉ e.X
  vb : Blk e.W0 e.Bv 95 #[e.clo]
  vX : e.Bv ∉ e.X
  map_ : OMap e.W0 Try.prog 3 e.bN e.nN e.M
  mX : e.bN ∉ e.X
  rows : ∀ c, (Lit.int .i64 c).wf = true → ∃ a cap, (e.M (.int .i64 c)).getD (.slice none 0 0) = .slice a (e.nx c).length cap ∧ (e.nx c).length ≤ 1000000 ∧ IsRec 1 cI 0 e.W0 a (e.nx c).length (e.nx c) ∧ ∀ x, a = some x → x.block ∉ e.X
/-- The world of the search: states E, path p. -/
def VW (e : Env) (U : List Int) (E : Ens) (p : List Int) (w : World) : Prop :=
  KB e.B e.X e.W0 w ∧ IM w e.bS E ∧ (∀ x ∈ keysE E, x ∈ U) ∧ (∃ v, Blk w e.Bp 35 #[v] ∧ w.ownsRow e.B 3 1 v p.length (p.flatMap cI)) ∧ ∃ vc, Blk w e.Bc 35 #[vc]
/-- What a visit leaves. -/
def VPost (e : Env) (U : List Int) (r : VR) (en : Ending) (w' : World) : Prop :=
  en = .returned (.bool r.1) ∧ ((r.1 = true ∧ KB e.B e.X e.W0 w' ∧ ∃ vc, Blk w' e.Bc 35 #[vc] ∧ w'.ownsRow e.B 3 1 vc r.2.2.2.length (r.2.2.2.flatMap cI)) ∨ (r.1 = false ∧ VW e U r.2.1 r.2.2.1 w'))

theorem visL_found {f : Ens → List Int → Int → VR} {l m : List Int} {E : Ens} {p : List Int} (h : (visL f l E p).1 = true) : visL f (l ++ m) E p = visL f l E p := by
  induction l generalizing E p with
  | nil => cases h
  | cons x r ih =>
    rw [List.cons_append]
    unfold visL at h ⊢
    split
    · rfl
    · rename_i hb
      rw [if_neg hb] at h
      exact ih h
theorem visL_snoc {f : Ens → List Int → Int → VR} {l : List Int} {x : Int} {E : Ens} {p : List Int} (h : (visL f l E p).1 = false) :
    visL f (l ++ [x]) E p = if (f (visL f l E p).2.1 (visL f l E p).2.2.1 x).1 = true then f (visL f l E p).2.1 (visL f l E p).2.2.1 x else (false, (f (visL f l E p).2.1 (visL f l E p).2.2.1 x).2.1, (f (visL f l E p).2.1 (visL f l E p).2.2.1 x).2.2.1, []) := by
  induction l generalizing E p with
  | nil => rfl
  | cons y r ih =>
    rw [List.cons_append]
    have h' := h
    unfold visL at h'
    split at h'
    · rename_i hb; rw [hb] at h'; cases h'
    · rename_i hb
      have e1 : visL f (y :: r) E p = visL f r (f E p y).2.1 (f E p y).2.2.1 := by rw [visL, if_neg hb]
      rw [e1, visL, if_neg hb]
      exact ih h'
theorem DInv.push {nx : Int → List Int} {E : Ens} {p : List Int} {c : Int} (hI : DInv nx E p) (h0 : stE E c = 0) (hL : Link nx p c) : DInv nx (putE E c 1) (p ++ [c]) := by
  have h1 : stE E c ≠ 1 := by rw [h0]; decide
  have hcp : c ∉ p := fun h => h1 ((hI.open_ c).2 h)
  have st1 : ∀ y, stE (putE E c 1) y = if y = c then 1 else stE E y := fun y => stE_put E c 1 y
  refine ⟨fun y => ?_, ?_, fun i hi => ?_, fun y => ?_, ?_⟩
  · rw [st1, List.mem_append, List.mem_singleton]
    by_cases e : y = c
    · simp [e]
    · rw [if_neg e, hI.open_ y]; simp [e]
  · rw [List.nodup_append]
    exact ⟨hI.nodup, by simp, fun a ha b hb => by simp at hb; subst hb; exact fun e => hcp (e ▸ ha)⟩
  · rw [List.length_append, List.length_singleton] at hi
    by_cases e : i + 1 < p.length
    · have e1 : (p ++ [c]).getD (i + 1) 0 = p.getD (i + 1) 0 := by simp [List.getD, List.getElem?_append, e]
      have e2 : (p ++ [c]).getD i 0 = p.getD i 0 := by simp [List.getD, List.getElem?_append, show i < p.length by omega]
      rw [e1, e2]; exact hI.chain i e
    · have e3 : i + 1 = p.length := by omega
      have e1 : (p ++ [c]).getD (i + 1) 0 = c := by rw [e3]; simp [List.getD]
      have e2 : (p ++ [c]).getD i 0 = p.getD (p.length - 1) 0 := by
        rw [show p.length - 1 = i by omega]; simp [List.getD, List.getElem?_append, show i < p.length by omega]
      rw [e1, e2]
      rcases hL with rfl | hL
      · simp at e3
      · exact hL
  · rw [st1]
    by_cases e : y = c
    · simp [e]
    · rw [if_neg e]; exact hI.vals y
  · obtain ⟨rank, n, hr⟩ := hI.closed
    refine ⟨rank, n, fun y hy => ?_⟩
    rw [st1] at hy
    by_cases e : y = c
    · rw [if_pos e] at hy; cases hy
    · rw [if_neg e] at hy
      obtain ⟨a1, a2⟩ := hr y hy
      refine ⟨a1, fun x hx => ⟨?_, (a2 x hx).2⟩⟩
      have hx2 := (a2 x hx).1
      rw [st1, if_neg]
      · exact hx2
      · intro e2; subst e2; rw [h0] at hx2; cases hx2
theorem link_push {nx : Int → List Int} {p : List Int} {c x : Int} (hx : x ∈ nx c) : Link nx (p ++ [c]) x := .inr (by
  have : (p ++ [c]).getD ((p ++ [c]).length - 1) 0 = c := by simp [List.getD]
  rw [this]; exact hx)
theorem path_len {nx : Int → List Int} {E : Ens} {p U : List Int} (h : DInv nx E p) (hU : ∀ x ∈ keysE E, x ∈ U) : p.length ≤ U.length := by
  refine List.Nodup.length_le_of_subset h.nodup fun x hx => hU x (lookE_some.1 ?_)
  have := (h.open_ x).2 hx
  unfold stE at this
  cases hl : lookE E x with
  | none => rw [hl] at this; cases this
  | some v => rfl
theorem ens_len {E : Ens} {U : List Int} (hn : (keysE E).Nodup) (hU : ∀ x ∈ keysE E, x ∈ U) : E.length ≤ U.length := by
  have := List.Nodup.length_le_of_subset hn (l₂ := U) (fun x hx => hU x hx)
  simpa [keysE] using this
theorem keys_put {E : Ens} {U : List Int} {c v : Int} (hU : ∀ x ∈ keysE E, x ∈ U) (hc : c ∈ U) : ∀ x ∈ keysE (putE E c v), x ∈ U := by
  intro x hx
  have := lookE_some.2 hx
  rw [lookE_put] at this
  split at this
  · rename_i e; rw [e]; exact hc
  · exact hU x (lookE_some.1 this)

/-! slices.Index at ints, with the place. -/
def idxZ (l : List Int) (v : Int) : Int := if v ∈ l then (l.idxOf v : Nat) else -1
def RelIz (v : Int) (l : List Int) (i : Value) : Prop := ∃ k : Nat, k ≤ l.length ∧ i = .int .i64 k ∧ v ∉ l.take k
theorem idx_at {v : Int} {l : List Int} {k : Nat} (hk : k < l.length) (h : v ∉ l.take k) (e : v = l.getD k 0) : idxZ l v = k := by
  have e1 : l[k] = v := by rw [e]; simp [List.getD, hk]
  have hm : v ∈ l := by rw [← e1]; exact List.getElem_mem hk
  unfold idxZ
  rw [if_pos hm]
  have hi : l.idxOf v < l.length := List.idxOf_lt_length_iff.2 hm
  have h1 : ¬ l.idxOf v < k := fun hlt => h (by
    rw [List.mem_take_iff_getElem]
    exact ⟨l.idxOf v, by omega, List.getElem_idxOf hi⟩)
  have h2 : ¬ k < l.idxOf v := fun hlt => by
    have := List.not_of_lt_findIdx (p := fun x => x == v) (xs := l) (i := k) hlt
    simp [e1] at this
  omega
set_option maxHeartbeats 1000000 in
theorem idxE_any (v : Int) (l : List Int) (a : Option Addr) (c : Nat) (w : World) (hl : l.length ≤ 1000000) (h : IsRec 1 cI 0 w a l.length l) :
    Calls Try.prog 51 #[.slice a l.length c, .int .i64 v] w fun e w' => e = .returned (.int .i64 (idxZ l v)) ∧ w = w' := by
  have H := Lib.hid h
  clear h
  go_enter Try.func51, Try.ntmps51
  go_wp2_with fail
  go_loop [8] (fun i => RelIz v l i) (fun i => l.length - (RowKit.intOf i).toNat)
  case atStart => exact ⟨0, Nat.zero_le _, rfl, by simp⟩
  case round =>
    obtain ⟨k, hk, rfl, hall⟩ := hrel
    have HA := Lib.hid hall
    clear hall
    by_cases hkr : k < l.length
    · obtain ⟨b1, o1, ha1, hb1, hm1, e1⟩ := int_at H.out k hkr
      have HS : Hid ((v == l.getD k 0) = false → RelIz v l (.int .i64 ((k + 1 : Nat) : Int))) := fun hx => ⟨k + 1, by omega, rfl, by
        rw [take_snocG 0 l k hkr, List.mem_append, List.mem_singleton]
        rintro (h1 | h1)
        · exact HA.out h1
        · rw [h1] at hx; simp at hx⟩
      have HY : Hid ((v == l.getD k 0) = true → idxZ l v = k) := fun hx => idx_at hkr HA.out (by simpa using hx)
      subst ha1
      generalize l.getD k 0 = x at *
      clear hm1
      cases hq : v == x with
      | false =>
        have R := Lib.hid (HS.out hq)
        clear HS HY
        go_wp2_with fail
        exact ⟨by simpa using R.out, by simp [RowKit.intOf]; omega⟩
      | true =>
        have F := Lib.hid (HY.out hq)
        clear HS HY
        go_wp2_with fail
        go_ret
        exact ⟨by rw [F.out]; rfl, rfl⟩
    · obtain rfl : k = l.length := by omega
      have F : Hid (idxZ l v = -1) := by rw [Hid]; unfold idxZ; rw [if_neg (by have := HA.out; rw [List.take_length] at this; exact this)]
      go_wp2_with fail
      go_ret
      exact ⟨by rw [F.out]; rfl, rfl⟩
end Go.Proofs.Ytljojgpjgjfddaa
