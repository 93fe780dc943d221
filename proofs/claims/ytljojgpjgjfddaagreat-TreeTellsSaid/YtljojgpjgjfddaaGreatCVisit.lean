/- Several texts in one: CEnv, CVisit. -/
import Derived.Test.YtljojgpjgjfddaaGreatCBase
import Derived.Test.YtljojgpjgjfddaaGreatCyPlain

/- The memory of channel.Cycle's search: what stays, what turns; slices.Index at ints, with the place; small laws of the plain search. -/
namespace Go.Proofs.YtljojgpjgjfddaaGreat
open Go.RowKit Go.Maps
set_option linter.unusedVariables false

/-- Below B only the blocks X have turned. -/
structure KB (B : Nat) (X : List Nat) (w w' : World) : Prop where
  os : w'.os = w.os
  tape : w'.tape = w.tape
  output : w'.output = w.output
  size : w.heap.size ≤ w'.heap.size
  block : ∀ i, i < B → i ∉ X → w'.heap[i]? = w.heap[i]?
section
variable {B : Nat} {X : List Nat} {w w' w'' : World}
theorem KB.refl (B : Nat) (X : List Nat) (w : World) : KB B X w w := ⟨rfl, rfl, rfl, Nat.le_refl _, fun _ _ _ => rfl⟩
theorem KB.grown {row : Option Nat} (h : KB B X w w') (hB : B ≤ w.heap.size) (hg : w'.grownBy w'' row) (hr : ∀ g, row = some g → g ∈ X ∨ B ≤ g) : KB B X w w'' :=
  ⟨hg.os.trans h.os, hg.tape.trans h.tape, hg.output.trans h.output, Nat.le_trans h.size hg.size, fun i hi hx => (hg.block i (by have := h.size; omega) (fun e => by
    rcases hr i e.symm with h1 | h1
    · exact hx h1
    · omega)).trans (h.block i hi hx)⟩
theorem KB.alloc (h : KB B X w w') (hB : B ≤ w.heap.size) (o : Obj) : KB B X w (w'.alloc o) := h.grown hB (World.grownBy_alloc w' o none) (fun g e => by cases e)
theorem KB.below (h : KB B X w w') (hB : B ≤ w.heap.size) (hb : Below w'.heap.size w' w'') : KB B X w w'' := h.grown hB (only_of_below hb none) (fun g e => by cases e)
theorem KB.setCell (h : KB B X w w') (hB : B ≤ w.heap.size) {p : Addr} (hp : p.block ∈ X ∨ B ≤ p.block) (v : Value) : KB B X w (w'.setCell p v) :=
  ⟨h.os, h.tape, h.output, by simpa [World.setCell] using h.size, fun i hi hx => (Below.heap_setCell w' p v i (by
    rintro rfl
    rcases hp with h1 | h1
    · exact hx h1
    · omega)).trans (h.block i hi hx)⟩
theorem KB.drewN (h : KB B X w w') (n : Nat) : KB B X w (w'.drewN n) := ⟨h.os, h.tape, h.output, h.size, h.block⟩
theorem KB.drew (h : KB B X w w') : KB B X w w'.drew := ⟨h.os, h.tape, h.output, h.size, h.block⟩
theorem KB.blk {g : Nat} {t : TypeId} {cs : Array Value} (h : KB B X w w') (hb : Blk w g t cs) (hg : g < B) (hx : g ∉ X) : Blk w' g t cs := (h.block g hg hx).trans hb
theorem KB.omap {P : Program} {k : TypeId} {b n : Nat} {M : Lit → Option Value} (h : KB B X w w') (hm : OMap w P k b n M) (hg : b < B) (hx : b ∉ X) : OMap w' P k b n M := by
  obtain ⟨D, ⟨es, clock, e, F⟩, h2⟩ := hm
  exact ⟨D, ⟨es, clock, (h.block b hg hx).trans e, F⟩, h2⟩
theorem KB.isRec {α : Type} {m : Nat} {c : α → List Value} {d : α} {a : Option Addr} {len : Nat} {xs : List α} (h : KB B X w w') (hr : IsRec m c d w a len xs) (hB : B = w.heap.size) (hx : ∀ x, a = some x → x.block ∉ X) : IsRec m c d w' a len xs := by
  refine ⟨hr.1, fun h0 => ?_⟩
  obtain ⟨b, off, e, hlt, hc⟩ := hr.2 h0
  refine ⟨b, off, e, by have := h.size; omega, fun i j hi hj => ?_⟩
  rw [World.cell?_of_block (h.block b (by omega) (hx _ e))]; exact hc i j hi hj
theorem KB.toBelow {A : Nat} (h : KB B X w w') (hA : A ≤ B) (hX : ∀ g ∈ X, A ≤ g) : Below A w w' := ⟨h.os, h.tape, h.output, h.size, fun i hi => h.block i (by omega) (fun hm => by have := hX i hm; omega)⟩
end

structure Env where
  B : Nat
  bS : Nat
  Bp : Nat
  Bc : Nat
  Bst : Nat
  Bn : Nat
  Bv : Nat
  bN : Nat
  nN : Nat
  M : Lit → Option Value
  W0 : World
  nx : Int → List Int
def Env.X (e : Env) : List Nat := [e.bS, e.Bp, e.Bc]
def ptr (b : Nat) : Value := .pointer (some ⟨b, 0, none⟩)
def Env.clo (e : Env) : Value := .func (.func 76) #[] #[ptr e.Bst, ptr e.Bp, ptr e.Bc, ptr e.Bn, ptr e.Bv]
structure Env.Ok (e : Env) : Prop where
  hB : e.B = e.W0.heap.size
  lS : e.bS < e.B
  lp : e.Bp < e.B
  lc : e.Bc < e.B
  pc : e.Bp ≠ e.Bc
  stb : Blk e.W0 e.Bst 49 #[.map (some e.bS)]
  stX : e.Bst ∉ e.X
  nb : Blk e.W0 e.Bn 134 #[.map (some e.bN)]
  nX : e.Bn ∉ e.X
  vb : Blk e.W0 e.Bv 135 #[e.clo]
  vX : e.Bv ∉ e.X
  map_ : OMap e.W0 Tryz.prog 3 e.bN e.nN e.M
  mX : e.bN ∉ e.X
  rows : ∀ c, (Lit.int .i64 c).wf = true → ∃ a cap, (e.M (.int .i64 c)).getD (.slice none 0 0) = .slice a (e.nx c).length cap ∧ (e.nx c).length ≤ 1000000 ∧ IsRec 1 cI 0 e.W0 a (e.nx c).length (e.nx c) ∧ ∀ x, a = some x → x.block ∉ e.X
/-- The world of the search: states E, path p. -/
def VW (e : Env) (U : List Int) (E : Ens) (p : List Int) (w : World) : Prop :=
  KB e.B e.X e.W0 w ∧ IM w e.bS E ∧ (∀ x ∈ keysE E, x ∈ U) ∧ (∃ v, Blk w e.Bp 28 #[v] ∧ w.ownsRow e.B 3 1 v p.length (p.flatMap cI)) ∧ ∃ vc, Blk w e.Bc 28 #[vc]
/-- What a visit leaves. -/
def VPost (e : Env) (U : List Int) (r : VR) (en : Ending) (w' : World) : Prop :=
  en = .returned (.bool r.1) ∧ ((r.1 = true ∧ KB e.B e.X e.W0 w' ∧ ∃ vc, Blk w' e.Bc 28 #[vc] ∧ w'.ownsRow e.B 3 1 vc r.2.2.2.length (r.2.2.2.flatMap cI)) ∨ (r.1 = false ∧ VW e U r.2.1 r.2.2.1 w'))

theorem visL_found {f : Ens → List Int → Int → VR} {l m : List Int} {E : Ens} {p : List Int} (h : (visL f l E p).1 = true) : visL f (l ++ m) E p = visL f l E p := by
  induction l generalizing E p with
  | nil => cases h
  | cons x r ih =>
    rw [List.cons_append]
    unfold visL at h ⊢
    split
    · rfl
    · rename_i hb
      rw [if_neg hb] at h
      exact ih h
theorem visL_snoc {f : Ens → List Int → Int → VR} {l : List Int} {x : Int} {E : Ens} {p : List Int} (h : (visL f l E p).1 = false) :
    visL f (l ++ [x]) E p = if (f (visL f l E p).2.1 (visL f l E p).2.2.1 x).1 = true then f (visL f l E p).2.1 (visL f l E p).2.2.1 x else (false, (f (visL f l E p).2.1 (visL f l E p).2.2.1 x).2.1, (f (visL f l E p).2.1 (visL f l E p).2.2.1 x).2.2.1, []) := by
  induction l generalizing E p with
  | nil => rfl
  | cons y r ih =>
    rw [List.cons_append]
    have h' := h
    unfold visL at h'
    split at h'
    · rename_i hb; rw [hb] at h'; cases h'
    · rename_i hb
      have e1 : visL f (y :: r) E p = visL f r (f E p y).2.1 (f E p y).2.2.1 := by rw [visL, if_neg hb]
      rw [e1, visL, if_neg hb]
      exact ih h'
theorem DInv.push {nx : Int → List Int} {E : Ens} {p : List Int} {c : Int} (hI : DInv nx E p) (h0 : stE E c = 0) (hL : Link nx p c) : DInv nx (putE E c 1) (p ++ [c]) := by
  have h1 : stE E c ≠ 1 := by rw [h0]; decide
  have hcp : c ∉ p := fun h => h1 ((hI.open_ c).2 h)
  have st1 : ∀ y, stE (putE E c 1) y = if y = c then 1 else stE E y := fun y => stE_put E c 1 y
  refine ⟨fun y => ?_, ?_, fun i hi => ?_, fun y => ?_, ?_⟩
  · rw [st1, List.mem_append, List.mem_singleton]
    by_cases e : y = c
    · simp [e]
    · rw [if_neg e, hI.open_ y]; simp [e]
  · rw [List.nodup_append]
    exact ⟨hI.nodup, by simp, fun a ha b hb => by simp at hb; subst hb; exact fun e => hcp (e ▸ ha)⟩
  · rw [List.length_append, List.length_singleton] at hi
    by_cases e : i + 1 < p.length
    · have e1 : (p ++ [c]).getD (i + 1) 0 = p.getD (i + 1) 0 := by simp [List.getD, List.getElem?_append, e]
      have e2 : (p ++ [c]).getD i 0 = p.getD i 0 := by simp [List.getD, List.getElem?_append, show i < p.length by omega]
      rw [e1, e2]; exact hI.chain i e
    · have e3 : i + 1 = p.length := by omega
      have e1 : (p ++ [c]).getD (i + 1) 0 = c := by rw [e3]; simp [List.getD]
      have e2 : (p ++ [c]).getD i 0 = p.getD (p.length - 1) 0 := by
        rw [show p.length - 1 = i by omega]; simp [List.getD, List.getElem?_append, show i < p.length by omega]
      rw [e1, e2]
      rcases hL with rfl | hL
      · simp at e3
      · exact hL
  · rw [st1]
    by_cases e : y = c
    · simp [e]
    · rw [if_neg e]; exact hI.vals y
  · obtain ⟨rank, n, hr⟩ := hI.closed
    refine ⟨rank, n, fun y hy => ?_⟩
    rw [st1] at hy
    by_cases e : y = c
    · rw [if_pos e] at hy; cases hy
    · rw [if_neg e] at hy
      obtain ⟨a1, a2⟩ := hr y hy
      refine ⟨a1, fun x hx => ⟨?_, (a2 x hx).2⟩⟩
      have hx2 := (a2 x hx).1
      rw [st1, if_neg]
      · exact hx2
      · intro e2; subst e2; rw [h0] at hx2; cases hx2
theorem link_push {nx : Int → List Int} {p : List Int} {c x : Int} (hx : x ∈ nx c) : Link nx (p ++ [c]) x := .inr (by
  have : (p ++ [c]).getD ((p ++ [c]).length - 1) 0 = c := by simp [List.getD]
  rw [this]; exact hx)
theorem path_len {nx : Int → List Int} {E : Ens} {p U : List Int} (h : DInv nx E p) (hU : ∀ x ∈ keysE E, x ∈ U) : p.length ≤ U.length := by
  refine List.Nodup.length_le_of_subset h.nodup fun x hx => hU x (lookE_some.1 ?_)
  have := (h.open_ x).2 hx
  unfold stE at this
  cases hl : lookE E x with
  | none => rw [hl] at this; cases this
  | some v => rfl
theorem ens_len {E : Ens} {U : List Int} (hn : (keysE E).Nodup) (hU : ∀ x ∈ keysE E, x ∈ U) : E.length ≤ U.length := by
  have := List.Nodup.length_le_of_subset hn (l₂ := U) (fun x hx => hU x hx)
  simpa [keysE] using this
theorem keys_put {E : Ens} {U : List Int} {c v : Int} (hU : ∀ x ∈ keysE E, x ∈ U) (hc : c ∈ U) : ∀ x ∈ keysE (putE E c v), x ∈ U := by
  intro x hx
  have := lookE_some.2 hx
  rw [lookE_put] at this
  split at this
  · rename_i e; rw [e]; exact hc
  · exact hU x (lookE_some.1 this)

/-! slices.Index at ints, with the place. -/
def idxZ (l : List Int) (v : Int) : Int := if v ∈ l then (l.idxOf v : Nat) else -1
def RelIz (v : Int) (l : List Int) (i : Value) : Prop := ∃ k : Nat, k ≤ l.length ∧ i = .int .i64 k ∧ v ∉ l.take k
theorem idx_at {v : Int} {l : List Int} {k : Nat} (hk : k < l.length) (h : v ∉ l.take k) (e : v = l.getD k 0) : idxZ l v = k := by
  have e1 : l[k] = v := by rw [e]; simp [List.getD, hk]
  have hm : v ∈ l := by rw [← e1]; exact List.getElem_mem hk
  unfold idxZ
  rw [if_pos hm]
  have hi : l.idxOf v < l.length := List.idxOf_lt_length_iff.2 hm
  have h1 : ¬ l.idxOf v < k := fun hlt => h (by
    rw [List.mem_take_iff_getElem]
    exact ⟨l.idxOf v, by omega, List.getElem_idxOf hi⟩)
  have h2 : ¬ k < l.idxOf v := fun hlt => by
    have := List.not_of_lt_findIdx (p := fun x => x == v) (xs := l) (i := k) hlt
    simp [e1] at this
  omega
set_option maxHeartbeats 1000000 in
theorem idxE_any (v : Int) (l : List Int) (a : Option Addr) (c : Nat) (w : World) (hl : l.length ≤ 1000000) (h : IsRec 1 cI 0 w a l.length l) :
    Calls Tryz.prog 78 #[.slice a l.length c, .int .i64 v] w fun e w' => e = .returned (.int .i64 (idxZ l v)) ∧ w = w' := by
  have H := Lib.hid h
  clear h
  go_enter Tryz.func78, Tryz.ntmps78
  go_wp2_with fail
  go_loop [8] (fun i => RelIz v l i) (fun i => l.length - (RowKit.intOf i).toNat)
  case atStart => exact ⟨0, Nat.zero_le _, rfl, by simp⟩
  case round =>
    obtain ⟨k, hk, rfl, hall⟩ := hrel
    have HA := Lib.hid hall
    clear hall
    by_cases hkr : k < l.length
    · obtain ⟨b1, o1, ha1, hb1, hm1, e1⟩ := int_at H.out k hkr
      have HS : Hid ((v == l.getD k 0) = false → RelIz v l (.int .i64 ((k + 1 : Nat) : Int))) := fun hx => ⟨k + 1, by omega, rfl, by
        rw [take_snocG 0 l k hkr, List.mem_append, List.mem_singleton]
        rintro (h1 | h1)
        · exact HA.out h1
        · rw [h1] at hx; simp at hx⟩
      have HY : Hid ((v == l.getD k 0) = true → idxZ l v = k) := fun hx => idx_at hkr HA.out (by simpa using hx)
      subst ha1
      generalize l.getD k 0 = x at *
      clear hm1
      cases hq : v == x with
      | false =>
        have R := Lib.hid (HS.out hq)
        clear HS HY
        go_wp2_with fail
        exact ⟨by simpa using R.out, by simp [RowKit.intOf]; omega⟩
      | true =>
        have F := Lib.hid (HY.out hq)
        clear HS HY
        go_wp2_with fail
        go_ret
        exact ⟨by rw [F.out]; rfl, rfl⟩
    · obtain rfl : k = l.length := by omega
      have F : Hid (idxZ l v = -1) := by rw [Hid]; unfold idxZ; rw [if_neg (by have := HA.out; rw [List.take_length] at this; exact this)]
      go_wp2_with fail
      go_ret
      exact ⟨by rw [F.out]; rfl, rfl⟩
end Go.Proofs.YtljojgpjgjfddaaGreat

/- The contract of the function visit inside channel.Cycle. -/
namespace Go.Proofs.YtljojgpjgjfddaaGreat
open Go.RowKit Go.Maps
set_option linter.unusedVariables false

theorem Blk.one {w : World} {g : Nat} {t : TypeId} {v : Value} (h : Blk w g t #[v]) : w.cell? ⟨g, 0, none⟩ = some v ∧ w.frozen? ⟨g, 0, none⟩ = false := ⟨by rw [h.cell]; rfl, h.frozen 0⟩
theorem Blk.set0 {w : World} {g : Nat} {t : TypeId} {v : Value} (h : Blk w g t #[v]) (u : Value) : Blk (w.setCell ⟨g, 0, none⟩ u) g t #[u] := by
  have := h.set_ 0 u
  simpa using this
theorem own_drop {w : World} {base : Nat} {e : TypeId} {g cap n : Nat} {p : List Int} (h : w.ownsRow base e 1 (.slice (some ⟨g, 0, none⟩) n cap) n (p.flatMap cI)) (i : Nat) (hi : i < n) :
    IsRec 1 cI 0 w (some ⟨g, i, none⟩) (n - i) (p.drop i) := by
  obtain ⟨a, c', hv, _, hr, _⟩ := rec_of_own (d := (0 : Int)) cI_length (by decide) h
  simp only [Value.slice.injEq, true_and] at hv
  obtain ⟨rfl, _⟩ := hv
  refine ⟨by rw [List.length_drop, hr.1], fun h0 => ?_⟩
  obtain ⟨b, off, e1, hlt, hc⟩ := hr.2 (by omega)
  simp only [Option.some.injEq, Addr.mk.injEq, and_true] at e1
  obtain ⟨rfl, rfl⟩ := e1
  refine ⟨g, i, rfl, hlt, fun j q hj hq => ?_⟩
  obtain rfl : q = 0 := by omega
  have := hc (i + j) 0 (by omega) (by omega)
  have e2 : (p.drop i).getD j 0 = p.getD (i + j) 0 := by simp [List.getD, List.getElem?_drop]
  rw [e2, ← this]
  congr 2
  omega
theorem own_cut {w : World} {base : Nat} {e : TypeId} {g cap n : Nat} {p : List Int} (h : w.ownsRow base e 1 (.slice (some ⟨g, 0, none⟩) n cap) n (p.flatMap cI)) (m : Nat) (hm : m ≤ n) :
    w.ownsRow base e 1 (.slice (some ⟨g, 0, none⟩) m cap) m ((p.take m).flatMap cI) := by
  have hl : p.length = n := by have := h.1; rw [flatG_length cI_length] at this; omega
  rcases h.2 with ⟨hv, _⟩ | ⟨g', cap', cur, hv, hb, hg, r1, r2, r3, r4⟩
  · cases hv
  · simp only [Value.slice.injEq, Option.some.injEq, Addr.mk.injEq, and_true, true_and] at hv
    obtain ⟨rfl, rfl⟩ := hv
    refine ⟨by rw [flatG_length cI_length, List.length_take]; omega, .inr ⟨g, cap, cur, rfl, hb, hg, by omega, r2, r3, ?_⟩⟩
    rw [cI_map, List.map_take, ← cI_map, ← r4, List.take_take]
    congr 1
    omega
section
variable {P : Program} (w : World) {ops : Array Oper} {rest : List Oper} {o : Oper} {a : Act} {Q : Exit → Act → World → Prop}
theorem wpList_putI (hg : o.guard = none) (m x v : Operand) (t : TypeId) (hop : o.op = Op.mapUpdate t m x v)
    (k e : TypeId) (hk : P.underlying k = some (.int .i64)) (he : P.underlying e = some (.int .i64)) (ht : P.underlying t = some (.map k e)) (b : Nat) (E : Ens)
    (hm : a.eval m = .map (some b)) (hown : IMap P k e w b E) (hn : E.length < maxLen) (key val : Int) (hx : a.eval x = .int .i64 key) (hv : a.eval v = .int .i64 val) (wk : (Lit.int .i64 key).wf = true) (wv : (Lit.int .i64 val).wf = true)
    (hK : ∀ w', IMap P k e w' b (putE E key val) → w.grownBy w' (some b) → wpList P ops Q rest (a.put o.dst undef) w') : wpList P ops Q (o :: rest) a w :=
  wpList_plain hg fun _ hK' => wp_putI w m x v t hop k e hk he ht b E hm hown hn key val hx hv wk wv fun w' h1 h2 => hK' _ _ (hK w' h1 h2)
end
theorem zeroInts (w : World) : (zeroValue 28).run Tryz.prog w = .ok (.slice none 0 0) w := by kernel_rfl

theorem ownsRow_pos {W : World} {base : Nat} {e : TypeId} {size : Nat} {v : Value} {k : Nat} {xs : List Value} (hk : 0 < k) (h : W.ownsRow base e size v k xs) : ∃ g cap, v = .slice (some ⟨g, 0, none⟩) k cap := by
  rcases h.2 with ⟨_, h0⟩ | ⟨g, cap, _, rfl, _⟩
  · omega
  · exact ⟨g, cap, rfl⟩
section
variable (e : Env) (he : e.Ok) (U : List Int)
set_option maxRecDepth 100000 in
set_option maxHeartbeats 2000000 in
theorem visit_open (hUw : ∀ c ∈ U, (Lit.int .i64 c).wf = true) (hUl : U.length ≤ 100000) (E : Ens) (p : List Int) (c : Int) (w : World) (hc : c ∈ U) (hI : DInv e.nx E p) (hW : VW e U E p w) (h1 : stE E c = 1) (he : e.Ok) :
    Calls Tryz.prog 76 #[.int .i64 c, ptr e.Bst, ptr e.Bp, ptr e.Bc, ptr e.Bn, ptr e.Bv] w (VPost e U (true, E, p, p.drop (p.idxOf c))) := by
  have hcp : c ∈ p := (hI.open_ c).1 h1
  obtain ⟨kb, im, hk, ⟨v, bp, own⟩, vc, bc⟩ := hW
  have hpl := path_len hI hk
  have hB := he.hB
  have cst := (kb.blk he.stb (by have := he.stb.lt; omega) he.stX).one.1
  have r1 := im.look (t := 49) Tryz.underlying3 Tryz.underlying3 Tryz.underlying49 (zeroInt w) (hUw c hc)
  rw [show (lookE E c).getD 0 = 1 from h1] at r1
  have hi : p.idxOf c < p.length := List.idxOf_lt_length_iff.2 hcp
  obtain ⟨g, cap, rfl, hnc⟩ : ∃ g cap, v = .slice (some ⟨g, 0, none⟩) p.length cap ∧ p.length ≤ cap := by
    rcases own.2 with ⟨_, h0⟩ | ⟨g, cap, cur, rfl, _, _, r, _⟩
    · omega
    · exact ⟨g, cap, rfl, r⟩
  have RC := Lib.hid (own_drop own (p.idxOf c) hi)
  obtain ⟨a2, c2, hv2, _, rec2, _⟩ := rec_of_own (d := (0 : Int)) cI_length (by decide) own
  simp only [Value.slice.injEq, true_and] at hv2
  obtain ⟨rfl, rfl⟩ := hv2
  have R2 := Lib.hid rec2
  obtain ⟨cp, fp⟩ := bp.one
  obtain ⟨cc, fc⟩ := bc.one
  have IZ : Hid (idxZ p c = (p.idxOf c : Nat)) := by rw [Hid]; unfold idxZ; rw [if_pos hcp]
  have DL : Hid ((p.drop (p.idxOf c)).length = p.length - p.idxOf c) := by rw [Hid, List.length_drop]
  have BC0 := Lib.hid bc
  have KB0 := Lib.hid kb
  have lc := he.lc
  have lp := he.lp
  have pc : e.Bp ≠ e.Bc := he.pc
  have kbs := kb.size
  have cX : e.Bc ∈ e.X := by simp [Env.X]
  clear own rec2 bp bc kb im hk hI h1 hcp fp
  generalize hix : p.idxOf c = ix at *
  clear hix
  have lpw : e.Bp < w.heap.size := by omega
  have lcw : e.Bc < w.heap.size := by omega
  have FIN : Hid (∀ w' vc', KB e.B e.X e.W0 w' → Blk w' e.Bc 28 #[vc'] → w'.ownsRow e.B 3 1 vc' (p.drop ix).length ((p.drop ix).flatMap cI) → VPost e U (true, E, p, p.drop ix) (.returned (.bool true)) w') := fun w' vc' h1 h2 h3 => ⟨rfl, .inl ⟨rfl, h1, vc', h2, h3⟩⟩
  have KBS : Hid (∀ w' u, Below w.heap.size w w' → KB e.B e.X e.W0 (w'.setCell ⟨e.Bc, 0, none⟩ u) ∧ Blk (w'.setCell ⟨e.Bc, 0, none⟩ u) e.Bc 28 #[u]) := fun w' u hb =>
    ⟨(KB0.out.below (by omega) hb).setCell (by omega) (.inl cX) u, (BC0.out.below hb lcw).set0 u⟩
  unfold ptr
  generalize e.Bc = Bc at *
  have i0 : (0 : Int) ≤ (ix : Int) := by omega
  have i1 : (ix : Int) ≤ (p.length : Int) := by omega
  have i2 : (p.length : Int) ≤ (cap : Int) := by omega
  have i3 : ¬ cap = ix := by omega
  go_enter Tryz.func76, Tryz.ntmps76
  go_wp2_with fail
  go_region_held3 (fun w' => w'.cell? ⟨e.Bp, 0, none⟩ = some (.slice (some ⟨g, 0, none⟩) p.length cap))
    (first | exact cp | exact CP3.out | exact CP4.out _)
    (first
      | (go_at_call 78; refine (idxE_any c p _ _ _ (by omega) (by exact R2.out)).mono ?_; rintro e w' ⟨rfl, rfl⟩; rw [IZ.out])
      | (go_at_call 77; have hcl := cloneI_any (some ⟨g, ix, none⟩) (cap - ix) (p.drop ix) w.drew (by rw [DL.out]; omega) (by rw [DL.out]; omega) (by rw [DL.out]; exact RC.out); rw [DL.out] at hcl; refine hcl.mono ?_; rintro e w3 ⟨v3, rfl, own3, bel3⟩; obtain ⟨g3, c3, rfl⟩ := ownsRow_pos (by rw [DL.out]; omega) own3; have CP3 : Hid (w3.cell? ⟨_, 0, none⟩ = some _) := (bel3.cell (by exact lpw)).trans cp; have cc3 := (bel3.cell (p := ⟨_, 0, none⟩) lcw).trans cc; have fc3 := (bel3.frozen (p := ⟨_, 0, none⟩) lcw).trans fc; have CP4 : Hid (∀ u, (w3.setCell ⟨Bc, 0, none⟩ u).cell? ⟨_, 0, none⟩ = some _) := fun u => (World.cell?_setCell_other _ _ _ _ (by intro h; injection h with h; exact pc h.symm)).trans CP3.out; have OWN3 := Lib.hid own3; have BEL3 := Lib.hid bel3; clear own3 bel3))
  all_goals
    obtain ⟨k1, k2⟩ := KBS.out w3 (.slice (some ⟨g3, 0, none⟩) (p.length - ix) c3) (((Below.refl _ _).drew).trans BEL3.out)
    have F := Lib.hid (FIN.out _ _ k1 k2 (by
      rw [DL.out] at *
      exact (own_mono OWN3.out (by simp; omega)).kept (only_setCell (only_refl w3 (some Bc)) (.inl rfl) _) (.inr (by simp [Value.ownBlock]; have := (OWN3.out.lt g3 rfl).1; simp at this; omega))))
    clear k1 k2
    go_wp2_with fail
    go_ret
    exact F.out
set_option maxRecDepth 100000 in
set_option maxHeartbeats 2000000 in
theorem visit_closed (hUw : ∀ c ∈ U, (Lit.int .i64 c).wf = true) (E : Ens) (p : List Int) (c : Int) (w : World) (hc : c ∈ U) (hW : VW e U E p w) (h1 : stE E c = 2) (he : e.Ok) :
    Calls Tryz.prog 76 #[.int .i64 c, ptr e.Bst, ptr e.Bp, ptr e.Bc, ptr e.Bn, ptr e.Bv] w (VPost e U (false, E, p, [])) := by
  have F : Hid (VPost e U (false, E, p, []) (.returned (.bool false)) w) := ⟨rfl, .inr ⟨rfl, hW⟩⟩
  obtain ⟨kb, im, hk, ⟨v, bp, own⟩, vc, bc⟩ := hW
  have hB := he.hB
  have cst := (kb.blk he.stb (by have := he.stb.lt; omega) he.stX).one.1
  have r1 := im.look (t := 49) Tryz.underlying3 Tryz.underlying3 Tryz.underlying49 (zeroInt w) (hUw c hc)
  rw [show (lookE E c).getD 0 = 2 from h1] at r1
  clear own bp bc kb im hk h1
  unfold ptr
  go_enter Tryz.func76, Tryz.ntmps76
  go_wp2_with fail
  go_ret
  exact F.out
def RelV (f : Ens → List Int → Int → VR) (c : Int) (E1 : Ens) (p1 : List Int) (i : Value) (wr : World) : Prop :=
  ∃ j : Nat, j ≤ (e.nx c).length ∧ i = .int .i64 j ∧ (visL f ((e.nx c).take j) E1 p1).1 = false ∧ VW e U (visL f ((e.nx c).take j) E1 p1).2.1 p1 wr
set_option maxRecDepth 100000 in
set_option maxHeartbeats 4000000 in
theorem visit_new (hUw : ∀ c ∈ U, (Lit.int .i64 c).wf = true) (hUl : U.length ≤ 100000) (hUc : ∀ c ∈ U, ∀ x ∈ e.nx c, x ∈ U) (he : e.Ok) (k : Nat)
    (H : ∀ (E : Ens) (p : List Int) (c : Int) (w : World), c ∈ U → unv U E ≤ k → DInv e.nx E p → Link e.nx p c → VW e U E p w →
      Calls Tryz.prog 76 #[.int .i64 c, ptr e.Bst, ptr e.Bp, ptr e.Bc, ptr e.Bn, ptr e.Bv] w (VPost e U (vis e.nx (k + 1) E p c)))
    (E : Ens) (p : List Int) (c : Int) (w : World) (hc : c ∈ U) (hu : unv U E ≤ k + 1) (hI : DInv e.nx E p) (hL : Link e.nx p c) (hW : VW e U E p w) (h0 : stE E c = 0) :
    Calls Tryz.prog 76 #[.int .i64 c, ptr e.Bst, ptr e.Bp, ptr e.Bc, ptr e.Bn, ptr e.Bv] w (VPost e U (vis e.nx (k + 2) E p c)) := by
  have EQ : Hid (vis e.nx (k + 2) E p c = if (visL (vis e.nx (k + 1)) (e.nx c) (putE E c 1) (p ++ [c])).1 = true then visL (vis e.nx (k + 1)) (e.nx c) (putE E c 1) (p ++ [c]) else (false, putE (visL (vis e.nx (k + 1)) (e.nx c) (putE E c 1) (p ++ [c])).2.1 c 2, (visL (vis e.nx (k + 1)) (e.nx c) (putE E c 1) (p ++ [c])).2.2.1.dropLast, [])) := by
    rw [Hid, vis, if_neg (by rw [h0]; decide), if_neg (by rw [h0]; decide)]
  have hu1 := unv_put hc h0 (v := 1) (by decide)
  have hu2 : unv U (putE E c 1) ≤ k := by omega
  have hI1 := hI.push h0 hL
  have SP : Hid (∀ j, VSpec e.nx (putE E c 1) (p ++ [c]) ((e.nx c).take j) (visL (vis e.nx (k + 1)) ((e.nx c).take j) (putE E c 1) (p ++ [c]))) := fun j =>
    visL_spec (U := U) (k := k) (f := vis e.nx (k + 1)) (vis_spec hUc k) ((e.nx c).take j) (putE E c 1) (p ++ [c]) (fun x hx => hUc c hc x (List.mem_of_mem_take hx)) (by omega) hI1 (fun x hx => link_push (List.mem_of_mem_take hx))
  have wfc := hUw c hc
  obtain ⟨kb, im, hk, ⟨v, bp, own⟩, vc, bc⟩ := hW
  have hpl := path_len hI hk
  have hel := ens_len im.nodup hk
  have hk1 := Lib.hid (keys_put (v := 1) hk hc)
  have HB := Lib.hid he.hB
  have hB1 : e.B ≤ e.W0.heap.size := by have := HB.out; omega
  have hB2 : e.W0.heap.size ≤ e.B := by have := HB.out; omega
  have kbs := kb.size
  have cst := (kb.blk he.stb (by have := he.stb.lt; omega) he.stX).one.1
  have r1 := im.look (t := 49) Tryz.underlying3 Tryz.underlying3 Tryz.underlying49 (zeroInt w) wfc
  rw [show (lookE E c).getD 0 = 0 from h0] at r1
  obtain ⟨cp, fp⟩ := bp.one
  obtain ⟨i0, hi0, hz0, hz1, hz2⟩ := info_parts infoInt
  have sp : e.bS ≠ e.Bp := im.ne_blk bp
  have sc : e.bS ≠ e.Bc := im.ne_blk bc
  have pc := he.pc
  have lS := he.lS
  have lp := he.lp
  have lc := he.lc
  have BP := Lib.hid bp
  have BC := Lib.hid bc
  have KB0 := Lib.hid kb
  have OWN := Lib.hid own
  have HH := Lib.hid H
  have UC := Lib.hid hUc
  have UW := Lib.hid hUw
  clear hI hL hk H bp bc kb own hUc hUw h0 hu hI1
  unfold ptr
  go_enter Tryz.func76, Tryz.ntmps76
  go_wp2_with (at_mapUpdate; refine wpList_putI _ rfl _ _ _ 49 rfl 3 3 Tryz.underlying3 Tryz.underlying3 Tryz.underlying49 e.bS E rfl im ?c1 c 1 rfl rfl wfc (by decide) ?_)
  case c1 => unfold maxLen; omega
  intro w1 im1 g1
  have cp1 : w1.cell? ⟨e.Bp, 0, none⟩ = some v := by rw [g1.cell_far ⟨e.Bp, 0, none⟩ (by show e.Bp < _; omega) (by simp; omega)]; exact cp
  have BP1 : Hid (Blk w1 e.Bp 28 #[v]) := BP.out.grown g1 (by simp; omega)
  have BC1 : Hid (Blk w1 e.Bc 28 #[vc]) := BC.out.grown g1 (by simp; omega)
  have KB1 : Hid (KB e.B e.X e.W0 w1) := KB0.out.grown (by omega) g1 (fun g h => by injection h with h; subst h; exact .inl (by simp [Env.X]))
  have own1 : w1.ownsRow e.B 3 1 v p.length (p.flatMap cI) := own_keptJ OWN.out g1 (fun q hq => by have := (OWN.out.lt q hq).1; omega)
  have OG : Hid (∀ g, v.ownBlock = some g → e.B ≤ g) := fun g h => (own1.lt g h).1
  have hs1 := g1.size
  have IM1 := Lib.hid im1
  clear im1 g1 im cst cp fp r1 BP BC KB0
  go_wp2_with (at_builtin; refine wpList_append_own _ rfl _ _ 28 rfl e.B 3 i0 _ 1 8 Tryz.underlying28 hi0 hz0 hz1 hz2 rfl (by decide) _ _ _ rfl (own1.alloc _) ⟨w1.heap.size, 0, none⟩ 1 1 [.int .i64 c] rfl rfl (World.news_of_block (cs := #[.int .i64 c]) (t := 3) (fr := (0, 0)) (heap_alloc_new w1 _)) ?n2 ?n3 ?n4 ?n5 ?_)
  case n2 => intro u hu; simp at hu; subst hu; rfl
  case n3 => unfold maxLen; omega
  case n4 => omega
  case n5 => simp; omega
  intro v2 w2 own2 g2 _
  obtain ⟨g', cap', rfl⟩ := ownsRow_pos (by omega) own2
  have hs2 := g2.size
  have nb : ∀ b, b < e.B → some b ≠ v.ownBlock := fun b hb h => by have := OG.out b h.symm; omega
  have bp2 : Blk w2 e.Bp 28 #[v] := (BP1.out.alloc _).grown g2 (nb _ lp)
  have BC2 : Hid (Blk w2 e.Bc 28 #[vc]) := (BC1.out.alloc _).grown g2 (nb _ lc)
  have KB2 : Hid (KB e.B e.X e.W0 w2) := (KB1.out.alloc (by omega) _).grown (by omega) g2 (fun g h => .inr (OG.out g h))
  have IM2 : Hid (IM w2 e.bS (putE E c 1)) := (IM1.out.alloc _).kept g2 (nb _ lS)
  obtain ⟨c2, f2⟩ := bp2.one
  have gB : e.B ≤ g' := (own2.lt g' rfl).1
  have gs3 : w2.grownBy (w2.setCell ⟨e.Bp, 0, none⟩ (.slice (some ⟨g', 0, none⟩) (p.length + 1) cap')) (some e.Bp) := only_setCell (only_refl w2 (some e.Bp)) (.inl rfl) _
  obtain ⟨w3, hw3⟩ : ∃ w3 : World, w2.setCell ⟨e.Bp, 0, none⟩ (.slice (some ⟨g', 0, none⟩) (p.length + 1) cap') = w3 := ⟨_, rfl⟩
  rw [hw3] at gs3
  have VW3 : Hid (VW e U (putE E c 1) (p ++ [c]) w3) := by
    refine ⟨?_, IM2.out.kept gs3 (by simp; omega), hk1.out, ⟨.slice (some ⟨g', 0, none⟩) (p.length + 1) cap', ?_, ?_⟩, vc, BC2.out.grown gs3 (by simp; omega)⟩
    · exact KB2.out.grown (by omega) gs3 (fun g h => by injection h with h; subst h; exact .inl (by simp [Env.X]))
    · rw [← hw3]; exact bp2.set0 _
    · rw [List.length_append, List.flatMap_append]
      exact own_keptJ own2 gs3 (fun q hq => by have := (own2.lt q hq).1; omega)
  have KB3 := Lib.hid VW3.out.1
  obtain ⟨a, cap, hMc, hnl, hrec, hax⟩ := he.rows c wfc
  have hom := KB3.out.omap he.map_ (by have := he.map_.lt; omega) he.mX
  have r3 := hom.look (t := 134) (int_keyed Tryz.underlying3) Tryz.underlying134 (zeroInts w3) (keyOf_int_mk Tryz.underlying3 wfc)
  rw [hMc] at r3
  have cn3 := (KB3.out.blk he.nb (by have := he.nb.lt; omega) he.nX).one.1
  have np : e.Bn ≠ e.Bp := fun h => he.nX (by rw [h]; simp [Env.X])
  have cn2 : w2.cell? ⟨e.Bn, 0, none⟩ = some (.map (some e.bN)) := (KB2.out.blk he.nb (by have := he.nb.lt; omega) he.nX).one.1
  rw [← hw3] at r3
  have HW3 := Lib.hid hw3
  have HREC := Lib.hid hrec
  have HAX := Lib.hid hax
  clear own1 own2 g2 gs3 hw3 hom hMc hrec hax bp2 KB2 IM2 BC2 KB1 IM1 BP1 BC1 nb OG OWN
  go_wp2_with fail
  rw [HW3.out]
  clear r3 cn3 cn2 c2 f2 cp1 HW3
  generalize hE1 : putE E c 1 = E1 at *
  generalize hp1 : p ++ [c] = p1 at *
  have hp1l : p1.length = p.length + 1 := by rw [← hp1]; simp
  have HP1 : Hid (p1.dropLast = p) := by rw [Hid, ← hp1]; simp
  have HLK : Hid (∀ x ∈ e.nx c, Link e.nx p1 x) := fun x hx => by rw [← hp1]; exact link_push hx
  have HP1L := Lib.hid hp1l
  clear hE1 hp1 hu1 hp1l
  go_loopw [33] (fun i wr => RelV e U (vis e.nx (k + 1)) c E1 p1 i wr) (fun i _ => (e.nx c).length - (RowKit.intOf i).toNat)
  case atStart => exact ⟨0, Nat.zero_le _, rfl, rfl, VW3.out⟩
  case round =>
    clear VW3 KB3
    obtain ⟨j, hj, rfl, hnf, vw⟩ := hrel
    have SPJ := Lib.hid (SP.out j)
    have kbr := vw.1
    by_cases hjr : j < (e.nx c).length
    · obtain ⟨b1, o1, ha1, hb1, hm1, e1⟩ := int_at (kbr.isRec HREC.out HB.out HAX.out) j hjr
      have TS := Lib.hid (take_snocG 0 (e.nx c) j hjr)
      have TD : Hid ((e.nx c).take (j + 1) ++ (e.nx c).drop (j + 1) = e.nx c) := List.take_append_drop _ _
      have cv := (kbr.blk he.vb (by have := he.vb.lt; omega) he.vX).one.1
      have HC := Lib.hid (HH.out (visL (vis e.nx (k + 1)) ((e.nx c).take j) E1 p1).2.1 p1 ((e.nx c).getD j 0) wr (UC.out c hc _ hm1) (Nat.le_trans (unv_mono (SPJ.out.mono0 hnf)) hu2) (SPJ.out.inv hnf) (HLK.out _ hm1) vw)
      have SN := Lib.hid (visL_snoc (f := vis e.nx (k + 1)) (l := (e.nx c).take j) (x := (e.nx c).getD j 0) hnf)
      rw [SPJ.out.path hnf, ← TS.out] at SN
      generalize (e.nx c).getD j 0 = x at *
      subst ha1
      unfold Env.clo ptr at cv
      unfold ptr at HC
      have HNF := Lib.hid hnf
      clear vw kbr hm1 TS hnf
      go_wp2_with fail
      refine HC.out.mono ?_
      rintro en w4 ⟨rfl, ⟨hr, hkb, hvc⟩ | ⟨hr, hvw⟩⟩
      · rw [hr]
        have F : Hid (VPost e U (vis e.nx (k + 2) E p c) (.returned (.bool true)) w4) := by
          rw [if_pos hr] at SN
          have hfd : (visL (vis e.nx (k + 1)) ((e.nx c).take (j + 1)) E1 p1).1 = true := by rw [SN.out]; exact hr
          have := visL_found (m := (e.nx c).drop (j + 1)) hfd
          rw [TD.out, SN.out] at this
          rw [Hid, EQ.out, this, if_pos hr]
          exact ⟨by rw [hr], .inl ⟨hr, hkb, hvc⟩⟩
        clear hkb hvc hr
        go_wp2_with fail
        go_ret
        exact F.out
      · rw [hr]
        have R : Hid (RelV e U (vis e.nx (k + 1)) c E1 p1 (.int .i64 ((j + 1 : Nat) : Int)) w4) := by
          rw [if_neg (by rw [hr]; simp)] at SN
          refine ⟨j + 1, by omega, rfl, by rw [SN.out], ?_⟩
          rw [SN.out]
          have hnf2 : (visL (vis e.nx (k + 1)) ((e.nx c).take (j + 1)) E1 p1).1 = false := by rw [SN.out]
          have hp2 := (SP.out (j + 1)).path hnf2
          rw [SN.out] at hp2
          simp only at hp2 ⊢
          rw [hp2] at hvw
          exact hvw
        clear hvw hr
        go_wp2_with fail
        exact ⟨by simpa using R.out, by simp [RowKit.intOf]; omega⟩
    · obtain rfl : j = (e.nx c).length := by omega
      rw [List.take_length] at hnf vw SPJ
      have NF : Hid (vis e.nx (k + 2) E p c = (false, putE (visL (vis e.nx (k + 1)) (e.nx c) E1 p1).2.1 c 2, p, [])) := by
        rw [Hid, EQ.out, if_neg (by rw [hnf]; simp), SPJ.out.path hnf, HP1.out]
      have hI2 := SPJ.out.inv hnf
      generalize (visL (vis e.nx (k + 1)) (e.nx c) E1 p1).2.1 = E2 at *
      obtain ⟨kb, im, hk, ⟨v5, bp, own⟩, vc5, bc⟩ := vw
      have kbs5 := kb.size
      have hel2 := ens_len im.nodup hk
      have hk2 := Lib.hid (keys_put (v := 2) hk hc)
      have hp1a : p1.length ≤ p.length + 1 := by have := HP1L.out; omega
      have hp1b : p.length + 1 ≤ p1.length := by have := HP1L.out; omega
      have hpl2 := path_len hI2 hk
      obtain ⟨g5, cap5, rfl, hnc⟩ : ∃ g cap, v5 = .slice (some ⟨g, 0, none⟩) p1.length cap ∧ p1.length ≤ cap := by
        rcases own.2 with ⟨_, h0⟩ | ⟨g, cap, cur, rfl, _, _, r, _⟩
        · omega
        · exact ⟨g, cap, rfl, r⟩
      have OC := Lib.hid (own_cut own (p1.length - 1) (by omega))
      have TK : Hid (p1.take (p1.length - 1) = p) := by rw [Hid, ← List.dropLast_eq_take]; exact HP1.out
      have gB5 : e.B ≤ g5 := (own.lt g5 rfl).1
      obtain ⟨c5, f5⟩ := bp.one
      have cst5 := (kb.blk he.stb (by have := he.stb.lt; omega) he.stX).one.1
      have stp : e.Bst ≠ e.Bp := fun h => he.stX (by rw [h]; simp [Env.X])
      have gs6 : wr.grownBy (wr.setCell ⟨e.Bp, 0, none⟩ (.slice (some ⟨g5, 0, none⟩) (p1.length - 1) cap5)) (some e.Bp) := only_setCell (only_refl wr (some e.Bp)) (.inl rfl) _
      have im6 : IM (wr.setCell ⟨e.Bp, 0, none⟩ (.slice (some ⟨g5, 0, none⟩) (p1.length - 1) cap5)) e.bS E2 := im.kept gs6 (by simp; omega)
      have KB6 : Hid (KB e.B e.X e.W0 (wr.setCell ⟨e.Bp, 0, none⟩ (.slice (some ⟨g5, 0, none⟩) (p1.length - 1) cap5))) := kb.grown (by omega) gs6 (fun g h => by injection h with h; subst h; exact .inl (by simp [Env.X]))
      have BP6 : Hid (Blk (wr.setCell ⟨e.Bp, 0, none⟩ (.slice (some ⟨g5, 0, none⟩) (p1.length - 1) cap5)) e.Bp 28 #[.slice (some ⟨g5, 0, none⟩) (p1.length - 1) cap5]) := bp.set0 _
      have BC6 : Hid (Blk (wr.setCell ⟨e.Bp, 0, none⟩ (.slice (some ⟨g5, 0, none⟩) (p1.length - 1) cap5)) e.Bc 28 #[vc5]) := bc.grown gs6 (by simp; omega)
      have OW6 : Hid ((wr.setCell ⟨e.Bp, 0, none⟩ (.slice (some ⟨g5, 0, none⟩) (p1.length - 1) cap5)).ownsRow e.B 3 1 (.slice (some ⟨g5, 0, none⟩) (p1.length - 1) cap5) (p1.length - 1) ((p1.take (p1.length - 1)).flatMap cI)) := own_keptJ OC.out gs6 (fun q hq => by have := (OC.out.lt q hq).1; omega)
      have q1 : (0 : Int) ≤ (p1.length : Int) - 1 := by omega
      have q2 : ((p1.length : Int) - 1).toNat = p1.length - 1 := by omega
      have q3 : (p1.length : Int) - 1 ≤ (cap5 : Int) := by omega
      clear kb bp own bc gs6 hk hnf SPJ SP HH hI2
      go_wp2_with (at_mapUpdate; refine wpList_putI _ rfl _ _ _ 49 rfl 3 3 Tryz.underlying3 Tryz.underlying3 Tryz.underlying49 e.bS E2 rfl im6 ?c1 c 2 rfl rfl wfc (by decide) ?_)
      case c1 => unfold maxLen; omega
      intro w7 im7 g7
      have F : Hid (VPost e U (vis e.nx (k + 2) E p c) (.returned (.bool false)) w7) := by
        rw [Hid, NF.out]
        refine ⟨rfl, .inr ⟨rfl, ?_, im7, hk2.out, ⟨_, BP6.out.grown g7 (by simp; omega), ?_⟩, vc5, BC6.out.grown g7 (by simp; omega)⟩⟩
        · exact KB6.out.grown (by omega) g7 (fun g h => by injection h with h; subst h; exact .inl (by simp [Env.X]))
        · have h1 := own_keptJ OW6.out g7 (fun q hq => by have := (OW6.out.lt q hq).1; omega)
          rw [TK.out] at h1
          have e2 : p1.length - 1 = p.length := by omega
          rw [e2] at h1 ⊢
          exact h1
      clear im7 g7 im6
      go_wp2_with fail
      go_ret
      exact F.out
/-- The search from a node. -/
theorem visit_any (hUw : ∀ c ∈ U, (Lit.int .i64 c).wf = true) (hUl : U.length ≤ 100000) (hUc : ∀ c ∈ U, ∀ x ∈ e.nx c, x ∈ U) (he : e.Ok) :
    ∀ (k : Nat) (E : Ens) (p : List Int) (c : Int) (w : World), c ∈ U → unv U E ≤ k → DInv e.nx E p → Link e.nx p c → VW e U E p w →
      Calls Tryz.prog 76 #[.int .i64 c, ptr e.Bst, ptr e.Bp, ptr e.Bc, ptr e.Bn, ptr e.Bv] w (VPost e U (vis e.nx (k + 1) E p c)) := by
  have first : ∀ (k : Nat) (E : Ens) (p : List Int) (c : Int) (w : World), c ∈ U → DInv e.nx E p → VW e U E p w → stE E c ≠ 0 →
      Calls Tryz.prog 76 #[.int .i64 c, ptr e.Bst, ptr e.Bp, ptr e.Bc, ptr e.Bn, ptr e.Bv] w (VPost e U (vis e.nx (k + 1) E p c)) := by
    intro k E p c w hc hI hW h
    rcases hI.vals c with h0 | h1 | h2
    · exact absurd h0 h
    · have := visit_open e U hUw hUl E p c w hc hI hW h1 he
      rw [vis, if_pos h1]; exact this
    · have := visit_closed e U hUw E p c w hc hW h2 he
      rw [vis, if_neg (by rw [h2]; decide), if_pos h2]; exact this
  intro k
  induction k with
  | zero =>
    intro E p c w hc hk hI hL hW
    refine first 0 E p c w hc hI hW fun h0 => ?_
    have := unv_put hc h0 (v := 1) (by decide)
    omega
  | succ k ih =>
    intro E p c w hc hk hI hL hW
    by_cases h0 : stE E c = 0
    · exact visit_new e U hUw hUl hUc he k ih E p c w hc hk hI hL hW h0
    · exact first (k + 1) E p c w hc hI hW h0
end
end Go.Proofs.YtljojgpjgjfddaaGreat
