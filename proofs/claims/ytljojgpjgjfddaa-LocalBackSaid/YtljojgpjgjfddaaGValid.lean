/- Several texts in one: Mem, Words, Rec, Plan, GName, Maps, GRepeats, GRep, GValid. -/
import Derived.Below
import Derived.Laws.OwnMore
import Derived.Deep.Draws
import Derived.Laws.Rows
import Derived.Deep.AppendLies
import Derived.Maps.AppendAt
import Derived.RegionTactic
import Derived.OwnWalk
import Derived.Test.YtljojgpjgjfddaaProg
import Derived.WalkKit
import Derived.WalkLawsBesides
import Derived.Outline
import Derived.Lib.Hide
import Derived.KernelRfl
import Derived.Maps.Own
import Derived.Maps.OwnOps
import Derived.Maps.OwnSet
import Derived.DeepKeys4
import Derived.StringKeys

/- My words for memory: a block known whole; only one block has turned; small facts. No program in sight. -/
namespace Go.Proofs.Ytljojgpjgjfddaa
open Go.RowKit
def Blk (w : World) (g : Nat) (t : TypeId) (cs : Array Value) : Prop := w.heap[g]? = some (.cells cs t (0, 0))

section
variable {w w' : World} {g : Nat} {t : TypeId} {cs : Array Value}
theorem Blk.lt (h : Blk w g t cs) : g < w.heap.size := by
  rcases Nat.lt_or_ge g w.heap.size with hlt | hge
  · exact hlt
  · unfold Blk at h; rw [Array.getElem?_eq_none hge] at h; cases h
theorem Blk.cell (h : Blk w g t cs) (i : Nat) : w.cell? ⟨g, i, none⟩ = cs[i]? := cell_of_row w g i cs t (0, 0) h
theorem Blk.frozen (h : Blk w g t cs) (i : Nat) : w.frozen? ⟨g, i, none⟩ = false := by
  unfold Blk at h
  simp [World.frozen?, h]
theorem Blk.new (w : World) (t : TypeId) (cs : Array Value) : Blk (w.alloc (.cells cs t)) w.heap.size t cs := heap_alloc_new w _
theorem Blk.drew (h : Blk w g t cs) : Blk w.drew g t cs := h
theorem Blk.drewN (h : Blk w g t cs) (n : Nat) : Blk (w.drewN n) g t cs := h
theorem Blk.alloc (h : Blk w g t cs) (o : Obj) : Blk (w.alloc o) g t cs := (Below.heap_alloc w o g h.lt).trans h
theorem Blk.set_ (h : Blk w g t cs) (i : Nat) (u : Value) : Blk (w.setCell ⟨g, i, none⟩ u) g t (cs.setIfInBounds i u) := by
  unfold Blk at h ⊢
  simp [World.setCell, Array.getElem?_modify, h]
theorem Blk.far (h : Blk w g t cs) {p : Addr} (hp : g ≠ p.block) (u : Value) : Blk (w.setCell p u) g t cs := (Below.heap_setCell w p u g hp).trans h
theorem Blk.below {B : Nat} (h : Blk w g t cs) (hb : Below B w w') (hg : g < B) : Blk w' g t cs := (hb.block g hg).trans h
theorem Blk.grown {row : Option Nat} (h : Blk w g t cs) (hb : w.grownBy w' row) (hg : some g ≠ row) : Blk w' g t cs := (hb.block g h.lt hg).trans h
end

theorem only_refl (a : World) (row : Option Nat) : a.grownBy a row := ⟨rfl, rfl, rfl, Nat.le_refl _, fun _ _ _ => rfl⟩
theorem only_drewN {a w : World} {row : Option Nat} (h : a.grownBy w row) (n : Nat) : a.grownBy (w.drewN n) row := ⟨h.os, h.tape, h.output, h.size, h.block⟩
theorem only_drew {a w : World} {row : Option Nat} (h : a.grownBy w row) : a.grownBy w.drew row := ⟨h.os, h.tape, h.output, h.size, h.block⟩
theorem only_alloc {a w : World} {row : Option Nat} (h : a.grownBy w row) (o : Obj) : a.grownBy (w.alloc o) row :=
  ⟨h.os, h.tape, h.output, Nat.le_trans h.size (by simp), fun i hi hne => (Below.heap_alloc w o i (Nat.lt_of_lt_of_le hi h.size)).trans (h.block i hi hne)⟩
theorem only_setCell {a w : World} {g : Nat} (h : a.grownBy w (some g)) {p : Addr} (hp : p.block = g ∨ a.heap.size ≤ p.block) (u : Value) : a.grownBy (w.setCell p u) (some g) :=
  ⟨h.os, h.tape, h.output, by simpa [World.setCell] using h.size, fun i hi hne => (Below.heap_setCell w p u i (by
    rintro rfl
    rcases hp with hp | hp
    · exact hne (by rw [hp])
    · omega)).trans (h.block i hi hne)⟩
theorem only_of_below {a w : World} (h : Below a.heap.size a w) (row : Option Nat) : a.grownBy w row := ⟨h.os, h.tape, h.output, h.size, fun i hi _ => h.block i hi⟩
theorem only_trans {a b c : World} {row : Option Nat} (h : a.grownBy b row) (k : b.grownBy c row) : a.grownBy c row :=
  ⟨k.os.trans h.os, k.tape.trans h.tape, k.output.trans h.output, Nat.le_trans h.size k.size, fun i hi hne => (k.block i (Nat.lt_of_lt_of_le hi h.size) hne).trans (h.block i hi hne)⟩
theorem below_only {B : Nat} {a b : World} {g : Nat} (h : a.grownBy b (some g)) (hB : B ≤ a.heap.size) (hg : B ≤ g) : Below B a b :=
  ⟨h.os, h.tape, h.output, h.size, fun i hi => h.block i (by omega) (by simp; omega)⟩
end Go.Proofs.Ytljojgpjgjfddaa

/- Words for memory, after the kit's own lemmas to copy: a slice that reads as a list; an owned row and a known block; append onto a row of the call's own. No program in sight. -/
namespace Go.Proofs.Ytljojgpjgjfddaa
open Go.RowKit
set_option linter.unusedVariables false
theorem block_of_add (a : Addr) (n : Nat) : (a.add n).block = a.block := by unfold Addr.add; split <;> rfl
theorem add_of_add (a : Addr) (i j : Nat) : (a.add i).add j = a.add (i + j) := by
  unfold Addr.add
  by_cases hi : i = 0 <;> by_cases hj : j = 0 <;> simp [hi, hj, Nat.add_assoc]

def Reads (w : World) (B size : Nat) (A : Option Addr) (n : Nat) (xs : List Value) : Prop :=
  xs.length = n * size ∧ (0 < n → ∃ ad, A = some ad ∧ ad.block < B ∧ ∀ j u, xs[j]? = some u → w.cell? (ad.add j) = some u)

section
variable {w w' : World} {B B' size n : Nat} {A : Option Addr} {xs : List Value}
theorem Reads.none_ : Reads w B size A 0 [] := ⟨by simp, fun h => absurd h (by omega)⟩
theorem Reads.at_ {k : Nat} (h : Reads w B 1 A n xs) (hk : k < n) : ∃ ad u, A = some ad ∧ ad.block < B ∧ xs[k]? = some u ∧ w.cell? (ad.add k) = some u := by
  obtain ⟨ad, e, hb, hc⟩ := h.2 (by omega)
  have hl : k < xs.length := by have := h.1; omega
  exact ⟨ad, xs[k], e, hb, List.getElem?_eq_getElem hl, hc k _ (List.getElem?_eq_getElem hl)⟩
theorem Reads.keep (h : Reads w B size A n xs) (hk : ∀ p : Addr, p.block < B → w'.cell? p = w.cell? p) : Reads w' B size A n xs :=
  ⟨h.1, fun hn => by
    obtain ⟨ad, e, hb, hc⟩ := h.2 hn
    exact ⟨ad, e, hb, fun j u hu => (hk _ (by rw [block_of_add]; exact hb)).trans (hc j u hu)⟩⟩
theorem Reads.more (h : Reads w B size A n xs) (hB : B ≤ B') : Reads w B' size A n xs :=
  ⟨h.1, fun hn => by
    obtain ⟨ad, e, hb, hc⟩ := h.2 hn
    exact ⟨ad, e, by omega, hc⟩⟩
theorem Reads.below (h : Reads w B size A n xs) (hb : Below B w w') : Reads w' B size A n xs := h.keep fun _ hp => hb.cell hp
theorem Reads.drew (h : Reads w B size A n xs) : Reads w.drew B size A n xs := h
theorem Reads.drewN (h : Reads w B size A n xs) (k : Nat) : Reads (w.drewN k) B size A n xs := h
theorem Reads.alloc (h : Reads w B size A n xs) (hB : B ≤ w.heap.size) (o : Obj) : Reads (w.alloc o) B size A n xs := h.keep fun p hp => World.cell?_alloc_lt w o p (by omega)
theorem Reads.setCell (h : Reads w B size A n xs) {p : Addr} (hB : B ≤ p.block) (u : Value) : Reads (w.setCell p u) B size A n xs :=
  h.keep fun q hq => World.cell?_setCell_other w p q u (fun e => by subst e; omega)
theorem Reads.grown (h : Reads w B size A n xs) {row : Option Nat} (hg : w.grownBy w' row) (hB : B ≤ w.heap.size) (hr : ∀ g, row = some g → B ≤ g) : Reads w' B size A n xs :=
  h.keep fun p hp => World.cell?_of_block (hg.block p.block (by omega) (fun e => by have := hr _ e.symm; omega))
theorem Reads.cut (h : Reads w B size A n xs) {k cap : Nat} (hk : k ≤ n) (hc : n ≤ cap) :
    Reads w B size (if cap = k then A else A.map (·.add (k * size))) (n - k) (xs.drop (k * size)) := by
  refine ⟨by rw [List.length_drop, h.1, Nat.sub_mul], fun hn => ?_⟩
  obtain ⟨ad, rfl, hb, hcell⟩ := h.2 (by omega)
  rw [if_neg (by omega)]
  refine ⟨ad.add (k * size), rfl, by rw [block_of_add]; exact hb, fun j u hu => ?_⟩
  rw [add_of_add]
  exact hcell _ u (by rw [← hu, List.getElem?_drop])
theorem Reads.of_own {base : Nat} {e : TypeId} {c : Nat} (h : w.ownsRow base e size (.slice A n c) n xs) : Reads w w.heap.size size A n xs := by
  refine ⟨h.1, fun hn => ?_⟩
  obtain ⟨g, cap, hv, _, hlt⟩ := h.form hn
  have hA : A = some ⟨g, 0, none⟩ := by injection hv
  subst hA
  exact ⟨_, rfl, hlt, h.cells (g := g) rfl⟩
end

section
variable {w w' : World} {g : Nat} {t : TypeId} {cs : Array Value}
theorem Blk.ne_ {g' : Nat} {t' : TypeId} {cs' : Array Value} (h : Blk w g t cs) (h' : Blk w g' t' cs') (hne : t ≠ t') : g ≠ g' := by
  rintro rfl
  unfold Blk at h h'
  rw [h] at h'
  injection h' with h'
  injection h' with _ ht
  exact hne ht
theorem own_blk_ne {base : Nat} {e : TypeId} {size n : Nat} {v : Value} {xs : List Value} (h : w.ownsRow base e size v n xs) (hg : Blk w g t cs) (hne : e ≠ t) : v.ownBlock ≠ some g := by
  rcases h.2 with ⟨rfl, _⟩ | ⟨g', cap, cur, rfl, _, hh, _⟩
  · simp [Value.ownBlock]
  · intro he
    have : g' = g := by simpa [Value.ownBlock] using he
    subst this
    exact Blk.ne_ (t := e) hh hg hne rfl
end
section
variable {P : Program} (w : World)

theorem run_append_of_nil (base : Nat) (t ty e : TypeId) (i : TypeInfo) (size : Nat) (ht : P.underlying t = some (.slice e)) (hi : P.info? e = some i)
    (v : Value) (n : Nat) (xs : List Value) (hown : w.ownsRow base e size v n xs) (c : Nat) : (Builtin.append_ #[t, t] ty #[v, .slice none 0 c]).run P w = .ok v w := by
  rcases hown.2 with ⟨rfl, rfl⟩ | ⟨g, cap, cur, rfl, _, _, hnc, _⟩
  · simp [Builtin.append_, run_underlying ht, sizeOf, typeInfo, hi, Builtin.lenOf, Builtin.firstCells]
  · simp [Builtin.append_, run_underlying ht, sizeOf, typeInfo, hi, Builtin.lenOf, Builtin.firstCells, hnc, storeCells]

theorem run_append_any (base : Nat) (t ty e : TypeId) (i : TypeInfo) (z : Value) (size bytes : Nat) (ht : P.underlying t = some (.slice e)) (hi : P.info? e = some i) (hz : i.zero = some z)
    (hsize : i.size = size) (hby : i.bytes = bytes) (hzs : z.cells.size = size) (hsz : 0 < size)
    (v : Value) (n : Nat) (xs : List Value) (hown : w.ownsRow base e size v n xs)
    (B : Nat) (A : Option Addr) (m c : Nat) (news : List Value) (hr : Reads w B size A m news) (h1 : ∀ u ∈ news, u.oneCell' = true)
    (h63 : n + m ≤ maxLen) (hbytes : (n + m) * bytes ≤ 140737488355328) (hbase : base ≤ w.heap.size) :
    ∃ v' w', (Builtin.append_ #[t, t] ty #[v, .slice A m c]).run P w = .ok v' w' ∧ w'.ownsRow base e size v' (n + m) (xs ++ news) ∧ w.grownBy w' v.ownBlock ∧
      (v'.ownBlock = v.ownBlock ∨ v'.ownBlock = some w.heap.size) := by
  rcases A with _ | ad
  · have hm : m = 0 := by
      rcases Nat.eq_zero_or_pos m with h0 | h0
      · exact h0
      · obtain ⟨ad, h, _⟩ := hr.2 h0
        cases h
    subst hm
    have hn : news = [] := List.eq_nil_of_length_eq_zero (by simpa using hr.1)
    subst hn
    exact ⟨v, w, run_append_of_nil w base t ty e i size ht hi v n xs hown c, by simpa using hown, World.grownBy.refl w _, .inl rfl⟩
  · have hcells : ∀ j u, news[j]? = some u → w.cell? (ad.add j) = some u := by
      intro j u hu
      rcases Nat.eq_zero_or_pos m with h0 | h0
      · subst h0
        have hn : news = [] := List.eq_nil_of_length_eq_zero (by simpa using hr.1)
        subst hn
        simp at hu
      · obtain ⟨ad', h, _, hc⟩ := hr.2 h0
        injection h with h
        subst h
        exact hc j u hu
    obtain ⟨v', w', hrun, h2, h3, _, h5⟩ := run_append_own_at (P := P) w base t ty e i z size bytes ht hi hz hsize hby hzs hsz v n xs hown ad m c news hr.1 hcells h1 h63 hbytes hbase
    exact ⟨v', w', hrun, h2, h3, h5⟩

theorem wp_append_any {o : Oper} {a : Act} {K : Act → World → Prop} {Q : Exit → Act → World → Prop} (s x : Operand) (t : TypeId)
    (ho : o.op = .call { callee := .builtin .append, args := #[s, x], argTypes := #[t, t] })
    (base : Nat) (e : TypeId) (i : TypeInfo) (z : Value) (size bytes : Nat) (ht : P.underlying t = some (.slice e)) (hi : P.info? e = some i) (hz : i.zero = some z)
    (hsize : i.size = size) (hby : i.bytes = bytes) (hzs : z.cells.size = size) (hsz : 0 < size)
    (v : Value) (n : Nat) (xs : List Value) (hs : a.eval s = v) (hown : w.ownsRow base e size v n xs)
    (B : Nat) (A : Option Addr) (m c : Nat) (news : List Value) (hx : a.eval x = .slice A m c) (hr : Reads w B size A m news) (h1 : ∀ u ∈ news, u.oneCell' = true)
    (h63 : n + m ≤ maxLen) (hbytes : (n + m) * bytes ≤ 140737488355328) (hbase : base ≤ w.heap.size)
    (h : ∀ v' w', w'.ownsRow base e size v' (n + m) (xs ++ news) → w.grownBy w' v.ownBlock → (v'.ownBlock = v.ownBlock ∨ v'.ownBlock = some w.heap.size) → K (a.put o.dst v') w') : o.wp P a w K Q := by
  obtain ⟨v', w', hrun, h2, h3, h4⟩ := run_append_any (P := P) w base t o.type e i z size bytes ht hi hz hsize hby hzs hsz v n xs hown B A m c news hr h1 h63 hbytes hbase
  unfold Oper.wp execOp
  simp only [ho, resolve, invoke, builtin, Sem.run_bind, Sem.run_pure, Result.andThen_ok, List.map_toArray, List.map_cons, List.map_nil, hs, hx, hrun]
  exact h v' w' h2 h3 h4

theorem wpList_append_any {ops : Array Oper} {rest : List Oper} {o : Oper} {a : Act} {Q : Exit → Act → World → Prop} (hgd : o.guard = none) (s x : Operand) (t : TypeId)
    (ho : o.op = .call { callee := .builtin .append, args := #[s, x], argTypes := #[t, t] })
    (base : Nat) (e : TypeId) (i : TypeInfo) (z : Value) (size bytes : Nat) (ht : P.underlying t = some (.slice e)) (hi : P.info? e = some i) (hz : i.zero = some z)
    (hsize : i.size = size) (hby : i.bytes = bytes) (hzs : z.cells.size = size) (hsz : 0 < size)
    (v : Value) (n : Nat) (xs : List Value) (hs : a.eval s = v) (hown : w.ownsRow base e size v n xs)
    (B : Nat) (A : Option Addr) (m c : Nat) (news : List Value) (hx : a.eval x = .slice A m c) (hr : Reads w B size A m news) (h1 : ∀ u ∈ news, u.oneCell' = true)
    (h63 : n + m ≤ maxLen) (hbytes : (n + m) * bytes ≤ 140737488355328) (hbase : base ≤ w.heap.size)
    (h : ∀ v' w', w'.ownsRow base e size v' (n + m) (xs ++ news) → w.grownBy w' v.ownBlock → (v'.ownBlock = v.ownBlock ∨ v'.ownBlock = some w.heap.size) → wpList P ops Q rest (a.put o.dst v') w') : wpList P ops Q (o :: rest) a w :=
  wpList_plain hgd fun _ hK => wp_append_any w s x t ho base e i z size bytes ht hi hz hsize hby hzs hsz v n xs hs hown B A m c news hx hr h1 h63 hbytes hbase fun v' w' h2 h3 h4 => hK _ _ (h v' w' h2 h3 h4)

theorem step_append_any {ops : Array Oper} {o : Oper} {a : Act} {K : Act → World → Prop} {Q : Exit → Act → World → Prop} {E : Prop} (hgd : o.guard = none) (s x : Operand) (t : TypeId)
    (ho : o.op = .call { callee := .builtin .append, args := #[s, x], argTypes := #[t, t] })
    (base : Nat) (e : TypeId) (i : TypeInfo) (z : Value) (size bytes : Nat) (ht : P.underlying t = some (.slice e)) (hi : P.info? e = some i) (hz : i.zero = some z)
    (hsize : i.size = size) (hby : i.bytes = bytes) (hzs : z.cells.size = size) (hsz : 0 < size)
    (v : Value) (n : Nat) (xs : List Value) (hs : a.eval s = v) (hown : w.ownsRow base e size v n xs)
    (B : Nat) (A : Option Addr) (m c : Nat) (news : List Value) (hx : a.eval x = .slice A m c) (hr : Reads w B size A m news) (h1 : ∀ u ∈ news, u.oneCell' = true)
    (h63 : n + m ≤ maxLen) (hbytes : (n + m) * bytes ≤ 140737488355328) (hbase : base ≤ w.heap.size)
    (h : ∀ v' w', w'.ownsRow base e size v' (n + m) (xs ++ news) → w.grownBy w' v.ownBlock → (v'.ownBlock = v.ownBlock ∨ v'.ownBlock = some w.heap.size) → K (a.put o.dst v') w') :
    if Region.wanted o (yielded ops a.tmps) = true then Oper.wp P o a w K Q else E := by
  have hw : Region.wanted o (yielded ops a.tmps) = true := by simp [Region.wanted, hgd]
  rw [if_pos hw]
  exact wp_append_any w s x t ho base e i z size bytes ht hi hz hsize hby hzs hsz v n xs hs hown B A m c news hx hr h1 h63 hbytes hbase h
end
end Go.Proofs.Ytljojgpjgjfddaa

/- Slices of records (m cells each) in memory, whatever the records are. No program in sight. -/
namespace Go.Proofs.Ytljojgpjgjfddaa
open Go.RowKit
set_option linter.unusedVariables false

section
variable {α : Type} {m : Nat} {c : α → List Value} {d : α}

/-- The slice (a, len) reads as the records xs: record i has the cells c (xs i). -/
def IsRec (m : Nat) (c : α → List Value) (d : α) (w : World) (a : Option Addr) (len : Nat) (xs : List α) : Prop :=
  xs.length = len ∧ (0 < len → ∃ b off, a = some ⟨b, off, none⟩ ∧ b < w.heap.size ∧ ∀ i j, i < len → j < m → w.cell? ⟨b, off + i * m + j, none⟩ = (c (xs.getD i d))[j]?)

theorem IsRec.nil (w : World) : IsRec m c d w none 0 [] := ⟨rfl, fun h => absurd h (by omega)⟩
theorem IsRec.below {w w' : World} {B len : Nat} {a : Option Addr} {xs : List α} (h : IsRec m c d w a len xs) (hB : w.heap.size ≤ B) (hb : Below B w w') : IsRec m c d w' a len xs := by
  refine ⟨h.1, fun h0 => ?_⟩
  obtain ⟨b, off, e, hlt, hc⟩ := h.2 h0
  refine ⟨b, off, e, by have := hb.size; omega, fun i j hi hj => ?_⟩
  rw [hb.cell (p := ⟨b, off + i * m + j, none⟩) (by show b < B; omega)]; exact hc i j hi hj
theorem IsRec.grown {w w' : World} {len : Nat} {row : Option Nat} {a : Option Addr} {xs : List α} (h : IsRec m c d w a len xs) (hg : w.grownBy w' row) (hne : ∀ x : Addr, a = some x → some x.block ≠ row) : IsRec m c d w' a len xs := by
  refine ⟨h.1, fun h0 => ?_⟩
  obtain ⟨b, off, e, hlt, hc⟩ := h.2 h0
  refine ⟨b, off, e, by have := hg.size; omega, fun i j hi hj => ?_⟩
  have hb := hne ⟨b, off, none⟩ e
  rw [hg.cell_far ⟨b, off + i * m + j, none⟩ hlt hb]; exact hc i j hi hj
theorem IsRec.alloc {w : World} {len : Nat} {a : Option Addr} {xs : List α} (h : IsRec m c d w a len xs) (o : Obj) : IsRec m c d (w.alloc o) a len xs := h.below (Nat.le_refl _) ((Below.refl _ _).alloc (Nat.le_refl _) o)

theorem flatG_length (hc : ∀ x, (c x).length = m) (xs : List α) : (xs.flatMap c).length = xs.length * m := by
  induction xs with
  | nil => simp
  | cons x l ih => rw [List.flatMap_cons, List.length_append, ih, hc, List.length_cons, Nat.add_mul]; omega
theorem flatG_at (hc : ∀ x, (c x).length = m) (xs : List α) (i j : Nat) (hi : i < xs.length) (hj : j < m) : (xs.flatMap c)[i * m + j]? = (c (xs.getD i d))[j]? := by
  induction xs generalizing i with
  | nil => simp at hi
  | cons x l ih =>
    rw [List.flatMap_cons]
    cases i with
    | zero => rw [Nat.zero_mul, Nat.zero_add, List.getElem?_append_left (by rw [hc]; exact hj)]; rfl
    | succ i =>
      have e1 : (i + 1) * m + j = (c x).length + (i * m + j) := by rw [hc, Nat.add_mul]; omega
      rw [e1, List.getElem?_append_right (by omega), Nat.add_sub_cancel_left, ih i (by simpa using hi)]
      simp

theorem rec_of_own {w : World} {base e n : Nat} {v : Value} {xs : List α} (hc : ∀ x, (c x).length = m) (hm : 0 < m) (h : w.ownsRow base e m v n (xs.flatMap c)) :
    ∃ a cap, v = .slice a n cap ∧ n ≤ cap ∧ IsRec m c d w a n xs ∧ ∀ x, a = some x → base ≤ x.block := by
  have hl : xs.length = n := by
    have := h.1
    rw [flatG_length hc] at this
    exact Nat.eq_of_mul_eq_mul_right hm this
  rcases h.2 with ⟨rfl, hn⟩ | ⟨g, cap, cur, rfl, hb, hg, hnc, _⟩
  · subst hn
    have : xs = [] := List.eq_nil_of_length_eq_zero hl
    subst this
    exact ⟨none, 0, rfl, Nat.le_refl _, IsRec.nil w, by simp⟩
  · refine ⟨_, cap, rfl, hnc, ⟨hl, fun h0 => ⟨g, 0, rfl, (Array.getElem?_eq_some_iff.1 hg).1, fun i j hi hj => ?_⟩⟩, by intro x e; injection e with e; subst e; exact hb⟩
    have hcl := h.cells (g := g) rfl
    have e : ∀ k, (⟨g, 0, none⟩ : Addr).add k = ⟨g, 0 + k, none⟩ := fun k => by unfold Addr.add; split <;> simp_all
    have hf := flatG_at (d := d) hc xs i j (by omega) hj
    have hcj : j < (c (xs.getD i d)).length := by rw [hc]; exact hj
    have h1 := hcl (i * m + j) _ (by rw [hf]; exact List.getElem?_eq_getElem hcj)
    rw [e] at h1
    rw [← Nat.add_assoc] at h1
    rw [h1, List.getElem?_eq_getElem hcj]

theorem reads_of_rec {w : World} {a : Option Addr} {len : Nat} {xs : List α} (hc : ∀ x, (c x).length = m) (h : IsRec m c d w a len xs) : Reads w w.heap.size m a len (xs.flatMap c) := by
  refine ⟨by rw [flatG_length hc, h.1], fun h0 => ?_⟩
  obtain ⟨b, off, ha, hb, hcc⟩ := h.2 h0
  refine ⟨_, ha, hb, fun j u hu => ?_⟩
  have hj : j < (xs.flatMap c).length := by
    rcases Nat.lt_or_ge j (xs.flatMap c).length with h | h
    · exact h
    · rw [List.getElem?_eq_none h] at hu; cases hu
  rw [flatG_length hc] at hj
  have hm : 0 < m := by
    rcases Nat.eq_zero_or_pos m with h0 | h0
    · subst h0; simp at hj
    · exact h0
  have e : (⟨b, off, none⟩ : Addr).add j = ⟨b, off + j, none⟩ := by unfold Addr.add; split <;> simp_all
  rw [e]
  have hq : j / m < xs.length := Nat.div_lt_of_lt_mul (by rw [Nat.mul_comm]; exact hj)
  have hr : j % m < m := Nat.mod_lt _ hm
  have hjj : j = j / m * m + j % m := by rw [Nat.mul_comm]; exact (Nat.div_add_mod j m).symm
  have h1 := hcc (j / m) (j % m) (by rw [← h.1]; exact hq) hr
  rw [hjj, flatG_at (d := d) hc xs _ _ hq hr] at hu
  rw [Nat.add_assoc, ← hjj] at h1
  rw [h1, hu]
end
end Go.Proofs.Ytljojgpjgjfddaa

/- Plans in plain Lean, and how they lie in memory. No program in sight. -/
namespace Go.Proofs.Ytljojgpjgjfddaa
open Go.RowKit
set_option linter.unusedVariables false

structure Nd where
  name : ByteArray
  sw : Bool
  ports : Int
structure Cb where
  a : Int
  ap : Int
  b : Int
  bp : Int
  dl : Int
  cp : Int
structure Pl where
  ns : List Nd
  cs : List Cb
def nd0 : Nd := ⟨ByteArray.empty, false, 0⟩
def cb0 : Cb := ⟨0, 0, 0, 0, 0, 0⟩
def cN (x : Nd) : List Value := [.string x.name, .bool x.sw, .int .i64 x.ports]
def cC (x : Cb) : List Value := [.int .i64 x.a, .int .i64 x.ap, .int .i64 x.b, .int .i64 x.bp, .int .i64 x.dl, .int .i64 x.cp]

/-- All numbers fit an int; names are of some length. -/
def WfN (x : Nd) : Prop := x.name.size ≤ maxLen ∧ (Lit.int .i64 x.ports).wf = true
def WfC (x : Cb) : Prop := (Lit.int .i64 x.a).wf = true ∧ (Lit.int .i64 x.ap).wf = true ∧ (Lit.int .i64 x.b).wf = true ∧ (Lit.int .i64 x.bp).wf = true ∧ (Lit.int .i64 x.dl).wf = true ∧ (Lit.int .i64 x.cp).wf = true
def WfP (p : Pl) : Prop := (∀ x ∈ p.ns, WfN x) ∧ ∀ x ∈ p.cs, WfC x

/-- The two slices of a plan read as p. -/
def IsPlan (w : World) (An Ac : Option Addr) (p : Pl) : Prop := IsRec 3 cN nd0 w An p.ns.length p.ns ∧ IsRec 6 cC cb0 w Ac p.cs.length p.cs
theorem IsPlan.below {w w' : World} {B : Nat} {An Ac : Option Addr} {p : Pl} (h : IsPlan w An Ac p) (hB : w.heap.size ≤ B) (hb : Below B w w') : IsPlan w' An Ac p := ⟨h.1.below hB hb, h.2.below hB hb⟩
theorem IsPlan.alloc {w : World} {An Ac : Option Addr} {p : Pl} (h : IsPlan w An Ac p) (o : Obj) : IsPlan (w.alloc o) An Ac p := ⟨h.1.alloc o, h.2.alloc o⟩

theorem node_at {w : World} {A : Option Addr} {len : Nat} {ns : List Nd} (h : IsRec 3 cN nd0 w A len ns) (k : Nat) (hk : k < len) :
    ∃ b off, A = some ⟨b, off, none⟩ ∧ b < w.heap.size ∧ ns.getD k nd0 ∈ ns ∧ w.cell? ⟨b, off + k * 3, none⟩ = some (.string (ns.getD k nd0).name) ∧ w.cell? ⟨b, off + k * 3 + 1, none⟩ = some (.bool (ns.getD k nd0).sw) ∧ w.cell? ⟨b, off + k * 3 + 1 + 1, none⟩ = some (.int .i64 (ns.getD k nd0).ports) := by
  obtain ⟨b, off, ha, hb, hc⟩ := h.2 (by omega)
  have hl : k < ns.length := by rw [h.1]; exact hk
  exact ⟨b, off, ha, hb, by simp [List.getD, hl], hc k 0 hk (by omega), hc k 1 hk (by omega), hc k 2 hk (by omega)⟩
theorem cable_at {w : World} {A : Option Addr} {len : Nat} {cs : List Cb} (h : IsRec 6 cC cb0 w A len cs) (k : Nat) (hk : k < len) :
    ∃ b off, A = some ⟨b, off, none⟩ ∧ b < w.heap.size ∧ cs.getD k cb0 ∈ cs ∧ w.cell? ⟨b, off + k * 6, none⟩ = some (.int .i64 (cs.getD k cb0).a) ∧ w.cell? ⟨b, off + k * 6 + 1, none⟩ = some (.int .i64 (cs.getD k cb0).ap) ∧
      w.cell? ⟨b, off + k * 6 + 2, none⟩ = some (.int .i64 (cs.getD k cb0).b) ∧ w.cell? ⟨b, off + k * 6 + 3, none⟩ = some (.int .i64 (cs.getD k cb0).bp) ∧ w.cell? ⟨b, off + k * 6 + 4, none⟩ = some (.int .i64 (cs.getD k cb0).dl) ∧ w.cell? ⟨b, off + k * 6 + 5, none⟩ = some (.int .i64 (cs.getD k cb0).cp) := by
  obtain ⟨b, off, ha, hb, hc⟩ := h.2 (by omega)
  have hl : k < cs.length := by rw [h.1]; exact hk
  exact ⟨b, off, ha, hb, by simp [List.getD, hl], hc k 0 hk (by omega), hc k 1 hk (by omega), hc k 2 hk (by omega), hc k 3 hk (by omega), hc k 4 hk (by omega), hc k 5 hk (by omega)⟩

/-! What graph.Valid computes. -/
def isLetter (c : UInt8) : Bool := 97 ≤ c && c ≤ 122
def isDigit (c : UInt8) : Bool := 48 ≤ c && c ≤ 57
/-- A name's bytes from place i on are alright. -/
def okByte (i : Nat) (c : UInt8) : Bool := isLetter c || (decide (i ≠ 0) && isDigit c)
def okName (s : ByteArray) : Bool := decide (1 ≤ s.size) && decide (s.size ≤ 20) && (List.range s.size).all fun i => okByte i (s.data.getD i 0)
def okNode (x : Nd) : Bool := okName x.name && (if x.sw then decide (1 ≤ x.ports) && decide (x.ports ≤ 8) else decide (x.ports = 1))
def hasPort (ns : List Nd) (node port : Int) : Bool := decide (0 ≤ node) && decide (node < ns.length) && decide (0 ≤ port) && decide (port < (ns.getD node.toNat nd0).ports)
def okPorts (ns : List Nd) (x : Cb) : Bool := hasPort ns x.a x.ap && hasPort ns x.b x.bp
/-- Among the first k elements some element occurs twice. -/
def twTo {β : Type} (eq : β → β → Bool) (d : β) (l : List β) (k : Nat) : Bool := (List.range k).any fun j => (l.take j).any fun y => eq y (l.getD j d)
def twiceB {β : Type} (eq : β → β → Bool) (d : β) (l : List β) : Bool := twTo eq d l l.length
theorem twTo_succ {β : Type} (eq : β → β → Bool) (d : β) (l : List β) (k : Nat) : twTo eq d l (k + 1) = (twTo eq d l k || (l.take k).any fun y => eq y (l.getD k d)) := by
  unfold twTo; rw [List.range_succ, List.any_append]; simp
theorem twTo_mono {β : Type} (eq : β → β → Bool) (d : β) (l : List β) (k : Nat) (h : twTo eq d l k = true) : ∀ n, k ≤ n → twTo eq d l n = true := by
  intro n hn
  induction n with
  | zero => have : k = 0 := by omega
            subst this; exact h
  | succ n ih =>
    rw [twTo_succ]
    by_cases hk : k = n + 1
    · subst hk; rw [twTo_succ] at h; exact h
    · rw [ih (by omega)]; rfl
def endsOf (cs : List Cb) : List (Int × Int) := cs.flatMap fun x => [(x.a, x.ap), (x.b, x.bp)]
def sameName (x y : Nd) : Bool := x.name.data.toList == y.name.data.toList
def samePair (x y : Int × Int) : Bool := x.1 == y.1 && x.2 == y.2
def repeatsB (p : Pl) : Bool := twiceB sameName nd0 p.ns || twiceB samePair (0, 0) (endsOf p.cs)
def okForm (x : Cb) : Bool := decide (1 ≤ x.dl) && decide (x.dl ≤ 100) && decide (1 ≤ x.cp) && decide (x.cp ≤ 1000)
def validP (p : Pl) : Int :=
  if 16 < p.ns.length ∨ 32 < p.cs.length then 5
  else if p.ns.all okNode = false then 1
  else if p.cs.all (okPorts p.ns) = false then 2
  else if repeatsB p = true then 8
  else if (p.cs.all fun x => decide (x.a ≠ x.b)) = false then 12
  else if p.cs.all okForm = false then 3
  else 0
end Go.Proofs.Ytljojgpjgjfddaa

/- The contracts of graph.validName, validNode and hasPort. -/
namespace Go.Proofs.Ytljojgpjgjfddaa
open Go.RowKit
set_option linter.unusedVariables false

/-- The bytes of a name before place k are alright. -/
def okTo (s : ByteArray) (k : Nat) : Bool := (List.range k).all fun i => okByte i (s.data.getD i 0)
theorem okTo_succ (s : ByteArray) (k : Nat) : okTo s (k + 1) = (okTo s k && okByte k (s.data.getD k 0)) := by
  unfold okTo; rw [List.range_succ, List.all_append]; simp
theorem okTo_mono (s : ByteArray) (k : Nat) (h : okTo s k = false) : ∀ n, k ≤ n → okTo s n = false := by
  intro n hn
  induction n with
  | zero => have : k = 0 := by omega
            subst this; exact h
  | succ n ih =>
    rw [okTo_succ]
    by_cases hk : k = n + 1
    · subst hk; rw [okTo_succ] at h; exact h
    · rw [ih (by omega)]; rfl
theorem okByte_iff (k : Nat) (c : UInt8) : okByte k c = decide ((97 ≤ (c.toNat : Int) ∧ (c.toNat : Int) ≤ 122) ∨ (k ≠ 0 ∧ 48 ≤ (c.toNat : Int) ∧ (c.toNat : Int) ≤ 57)) := by
  rw [Bool.eq_iff_iff]
  simp only [okByte, isLetter, isDigit, Bool.or_eq_true, Bool.and_eq_true, decide_eq_true_eq, UInt8.le_iff_toNat_le]
  have e1 : (97 : UInt8).toNat = 97 := rfl
  have e2 : (122 : UInt8).toNat = 122 := rfl
  have e3 : (48 : UInt8).toNat = 48 := rfl
  have e4 : (57 : UInt8).toNat = 57 := rfl
  rw [e1, e2, e3, e4]
  omega
theorem byte_at (s : ByteArray) (k : Nat) (h : k < s.size) : s.data.getD k 0 = s[k] := by
  have h2 : k < s.data.size := h
  unfold Array.getD
  rw [dif_pos h2]; rfl

set_option maxHeartbeats 1000000 in
theorem name_any (s : ByteArray) (w : World) :
    Calls Try.prog 122 #[.string s] w fun e w' => e = .returned (.bool (okName s)) ∧ w = w' := by
  by_cases h1 : s.size < 1
  · have hf : okName s = false := by simp [okName]; omega
    have HF := Lib.hid hf
    clear hf
    go_enter Try.func122, Try.ntmps122
    go_wp2
    go_ret
    exact ⟨by rw [HF.out]; rfl, rfl⟩
  by_cases h2 : 20 < s.size
  · have hf : okName s = false := by simp [okName]; omega
    have HF := Lib.hid hf
    clear hf
    go_enter Try.func122, Try.ntmps122
    go_wp2
    go_ret
    exact ⟨by rw [HF.out]; rfl, rfl⟩
  have hs : okName s = okTo s s.size := by
    unfold okName okTo
    rw [decide_eq_true (by omega : 1 ≤ s.size), decide_eq_true (by omega : s.size ≤ 20)]; rfl
  have HS := Lib.hid hs
  clear hs
  go_enter Try.func122, Try.ntmps122
  go_wp2
  go_loop [16] (fun i => ∃ k : Nat, k ≤ s.size ∧ i = .int .i64 k ∧ okTo s k = true) (fun i => s.size - (intOf i).toNat)
  case atStart => exact ⟨0, Nat.zero_le _, rfl, rfl⟩
  case round =>
    obtain ⟨k, hk, rfl, hok⟩ := hrel
    have HOK := Lib.hid hok
    clear hok
    by_cases hlt : k < s.size
    · have OS : Hid (okTo s (k + 1) = okByte k s[k]) := by rw [Hid, okTo_succ, HOK.out, byte_at s k hlt]; rfl
      have OB := Lib.hid (okByte_iff k s[k])
      by_cases hl : 97 ≤ (s[k].toNat : Int) ∧ (s[k].toNat : Int) ≤ 122
      · have fin : Hid (okTo s (k + 1) = true) := by rw [Hid, OS.out, OB.out, decide_eq_true (.inl hl)]
        clear OS OB HOK
        obtain ⟨l1, l2⟩ := hl
        go_wp2
        all_goals
          go_round
          case rel => exact ⟨k + 1, by omega, by go_num, fin.out⟩
          case measure => simp [intOf]; omega
      · by_cases hd : k ≠ 0 ∧ 48 ≤ (s[k].toNat : Int) ∧ (s[k].toNat : Int) ≤ 57
        · have fin : Hid (okTo s (k + 1) = true) := by rw [Hid, OS.out, OB.out, decide_eq_true (.inr hd)]
          clear OS OB HOK
          obtain ⟨d0, d1, d2⟩ := hd
          have hk0 : ((k : Int) == 0) = false := by rw [beq_eq_false_iff_ne]; omega
          have l1 : (s[k].toNat : Int) < 97 := by omega
          clear hl d0
          go_wp2
          all_goals
            go_round
            case rel => exact ⟨k + 1, by omega, by go_num, fin.out⟩
            case measure => simp [intOf]; omega
        · have fin : Hid (okName s = false) := by
            rw [Hid, HS.out]
            refine okTo_mono s (k + 1) ?_ _ (by omega)
            rw [OS.out, OB.out, decide_eq_false (by omega)]
          clear OS OB HOK HS
          by_cases hk0 : k = 0
          · have q0 : ((k : Int) == 0) = true := by rw [hk0]; rfl
            rcases (by omega : (s[k].toNat : Int) < 97 ∨ (97 ≤ (s[k].toNat : Int) ∧ 122 < (s[k].toNat : Int))) with l1 | ⟨l1, l2⟩ <;> clear hl hd hk0
            all_goals
              try (have b2 : decide ((s[k].toNat : Int) ≤ 122) = false := decide_eq_false (by omega))
              go_wp2
              all_goals
                go_ret
                exact ⟨by rw [fin.out]; rfl, rfl⟩
          · have q0 : ((k : Int) == 0) = false := by rw [beq_eq_false_iff_ne]; omega
            rcases (by omega : ((s[k].toNat : Int) < 97 ∧ (s[k].toNat : Int) < 48) ∨ ((s[k].toNat : Int) < 97 ∧ 48 ≤ (s[k].toNat : Int) ∧ 57 < (s[k].toNat : Int)) ∨ (97 ≤ (s[k].toNat : Int) ∧ 122 < (s[k].toNat : Int))) with ⟨l1, l2⟩ | ⟨l1, l2, l3⟩ | ⟨l1, l2⟩ <;> clear hl hd hk0
            all_goals
              try (have b2 : decide ((s[k].toNat : Int) ≤ 122) = false := decide_eq_false (by omega))
              try (have b3 : decide ((s[k].toNat : Int) ≤ 57) = false := decide_eq_false (by omega))
              go_wp2
              all_goals
                go_ret
                exact ⟨by rw [fin.out]; rfl, rfl⟩
    · have e : k = s.size := by omega
      have fin : Hid (okName s = true) := by rw [Hid, HS.out, ← e, HOK.out]
      clear e HOK HS
      go_wp2
      go_ret
      exact ⟨by rw [fin.out]; rfl, rfl⟩

theorem node_any (x : Nd) (w : World) :
    Calls Try.prog 78 #[.agg #[.string x.name, .bool x.sw, .int .i64 x.ports]] w fun e w' => e = .returned (.bool (okNode x)) ∧ w.alloc (.cells #[.string x.name, .bool x.sw, .int .i64 x.ports] 105) = w' := by
  obtain ⟨nm, sw, po⟩ := x
  simp only
  cases hn : okName nm with
  | false =>
    have hf : Hid (okNode ⟨nm, sw, po⟩ = false) := by simp [Hid, okNode, hn]
    have HN := Lib.hid hn
    clear hn
    go_enter Try.func78, Try.ntmps78
    go_wp2_with (go_at_call 122; refine (name_any _ _).mono ?_; rintro r w' ⟨rfl, rfl⟩; rw [HN.out])
    go_ret
    exact ⟨by rw [hf.out]; rfl, rfl⟩
  | true =>
    cases sw with
    | true =>
      have hf : Hid (okNode ⟨nm, true, po⟩ = (decide (1 ≤ po) && decide (po ≤ 8))) := by simp [Hid, okNode, hn]
      have HN := Lib.hid hn
      clear hn
      by_cases h1 : 1 ≤ po
      · go_enter Try.func78, Try.ntmps78
        go_wp2_with (go_at_call 122; refine (name_any _ _).mono ?_; rintro r w' ⟨rfl, rfl⟩; rw [HN.out])
        go_ret
        refine ⟨?_, rfl⟩
        rw [hf.out, decide_eq_true h1]
        first | rfl | (simp; done)
      · go_enter Try.func78, Try.ntmps78
        go_wp2_with (go_at_call 122; refine (name_any _ _).mono ?_; rintro r w' ⟨rfl, rfl⟩; rw [HN.out])
        go_ret
        refine ⟨?_, rfl⟩
        rw [hf.out, decide_eq_false (by omega)]
        first | rfl | (simp; done)
    | false =>
      have hf : Hid (okNode ⟨nm, false, po⟩ = (po == 1)) := by
        show _ = _
        simp only [okNode, hn]
        by_cases h : po = 1 <;> simp [h]
      have HN := Lib.hid hn
      clear hn
      go_enter Try.func78, Try.ntmps78
      go_wp2_with (go_at_call 122; refine (name_any _ _).mono ?_; rintro r w' ⟨rfl, rfl⟩; rw [HN.out])
      go_ret
      refine ⟨?_, rfl⟩
      rw [hf.out]
      first | rfl | (simp; done)

theorem port_any (p : Pl) (An Ac : Option Addr) (cn cc : Nat) (node port : Int) (w : World) (hl : p.ns.length ≤ 1000000) (h : IsPlan w An Ac p) :
    Calls Try.prog 79 #[.agg #[.slice An p.ns.length cn, .slice Ac p.cs.length cc], .int .i64 node, .int .i64 port] w fun e w' =>
      e = .returned (.bool (hasPort p.ns node port)) ∧ w.alloc (.cells #[.slice An p.ns.length cn, .slice Ac p.cs.length cc] 25) = w' := by
  have H := Lib.hid (h.alloc (.cells #[.slice An p.ns.length cn, .slice Ac p.cs.length cc] 25)).1
  clear h
  by_cases h1 : 0 ≤ node
  · by_cases h2 : node < p.ns.length
    · by_cases h3 : 0 ≤ port
      · have hf : Hid (hasPort p.ns node port = decide (port < (p.ns.getD node.toNat nd0).ports)) := by simp [Hid, hasPort, h1, h2, h3]
        obtain ⟨k, rfl⟩ : ∃ k : Nat, node = k := ⟨node.toNat, by omega⟩
        obtain ⟨b, off, ha, hb, hm, c0, c1, c2⟩ := node_at H.out k (by omega)
        rw [Int.toNat_natCast] at hf
        generalize p.ns.getD k nd0 = x at *
        generalize hq : p.ns.length = ln at *
        clear hq
        subst ha
        go_enter Try.func79, Try.ntmps79
        go_wp2
        go_ret
        refine ⟨?_, rfl⟩
        rw [hf.out]
        rfl
      · have hf : Hid (hasPort p.ns node port = false) := by simp [Hid, hasPort, h1, h2, h3]
        go_enter Try.func79, Try.ntmps79
        go_wp2
        go_ret
        exact ⟨by rw [hf.out]; rfl, rfl⟩
    · have hf : Hid (hasPort p.ns node port = false) := by simp [Hid, hasPort, h1, h2]
      go_enter Try.func79, Try.ntmps79
      go_wp2
      go_ret
      exact ⟨by rw [hf.out]; rfl, rfl⟩
  · have hf : Hid (hasPort p.ns node port = false) := by simp [Hid, hasPort, h1]
    go_enter Try.func79, Try.ntmps79
    go_wp2
    go_ret
    exact ⟨by rw [hf.out]; rfl, rfl⟩
end Go.Proofs.Ytljojgpjgjfddaa

/- A map of the call's own, as a function from its keys to values (whatever the elements' type). No program in sight. -/
namespace Go.Proofs.Ytljojgpjgjfddaa
open Go.RowKit Go.Maps
set_option linter.unusedVariables false

def anyElem (v : Value) : Option (DataW Value × List MemPlace) := some (.held v, [])

/-- Block b is a map of at most n entries; at the key l it holds M l. -/
def OMap (w : World) (P : Program) (k : TypeId) (b n : Nat) (M : Lit → Option Value) : Prop :=
  ∃ D : DataW Value, w.ownsMap P k anyElem b n D ∧ ∀ l, Maps.has D l = (M l).isSome ∧ ∀ z, D.atKey l (.held z) = .held ((M l).getD z)

def putM (M : Lit → Option Value) (k : Lit) (v : Value) : Lit → Option Value := fun l => if l.sameKey k then some v else M l

section
variable {w w' : World} {P : Program} {k : TypeId} {b n : Nat} {M : Lit → Option Value}
theorem OMap.made (w : World) (P : Program) (k : TypeId) : OMap (w.alloc (.map #[] 0)) P k w.heap.size 0 (fun _ => none) :=
  ⟨.map [], World.ownsMap_made w P k anyElem, fun l => ⟨rfl, fun z => rfl⟩⟩
theorem OMap.lt (h : OMap w P k b n M) : b < w.heap.size := by obtain ⟨D, h, _⟩ := h; exact h.lt
theorem OMap.mono {n' : Nat} (h : OMap w P k b n M) (hn : n ≤ n') : OMap w P k b n' M := by obtain ⟨D, h, h2⟩ := h; exact ⟨D, h.mono hn, h2⟩
theorem OMap.kept {row : Option Nat} (h : OMap w P k b n M) (hg : w.grownBy w' row) (hne : some b ≠ row) : OMap w' P k b n M := by
  obtain ⟨D, h, h2⟩ := h; exact ⟨D, h.kept hg hne, h2⟩
theorem OMap.alloc (h : OMap w P k b n M) (o : Obj) : OMap (w.alloc o) P k b n M := by obtain ⟨D, h, h2⟩ := h; exact ⟨D, h.alloc o, h2⟩
theorem OMap.drew (h : OMap w P k b n M) : OMap w.drew P k b n M := h
theorem OMap.drewN (h : OMap w P k b n M) (q : Nat) : OMap (w.drewN q) P k b n M := h
theorem OMap.setCell (h : OMap w P k b n M) {a : Addr} (ha : b ≠ a.block) (u : Value) : OMap (w.setCell a u) P k b n M := by obtain ⟨D, h, h2⟩ := h; exact ⟨D, h.setCell ha u, h2⟩
theorem OMap.below {B : Nat} (h : OMap w P k b n M) (hb : Below B w w') (hlt : b < B) : OMap w' P k b n M := by
  obtain ⟨D, ⟨es, clock, e, F⟩, h2⟩ := h
  exact ⟨D, ⟨es, clock, (hb.block b hlt).trans e, F⟩, h2⟩
theorem OMap.congr {M' : Lit → Option Value} (h : OMap w P k b n M) (e : ∀ l, M l = M' l) : OMap w P k b n M' := by
  have : M = M' := funext e
  rw [← this]; exact h

theorem OMap.look {t e : TypeId} (h : OMap w P k b n M) (K : Keyed P k) (ht : P.underlying t = some (.map k e)) {z : Value} (hz : (zeroValue e).run P w = .ok z w) {key : Value} {kl : Lit} (hkey : keyOf P k key = some kl) :
    (Instr.lookup t (.map (some b)) key false).run P w = .ok ((M kl).getD z) w := by
  obtain ⟨D, h, h2⟩ := h
  obtain ⟨v, ps, hrun, hv⟩ := h.lookup K ht hz (zd := .held z) (zp := []) rfl hkey
  rw [(h2 kl).2 z] at hv
  unfold anyElem at hv
  injection hv with hv
  injection hv with hv
  injection hv with hv
  rw [← hv]; exact hrun
theorem OMap.look_ok {t e : TypeId} (h : OMap w P k b n M) (K : Keyed P k) (ht : P.underlying t = some (.map k e)) {z : Value} (hz : (zeroValue e).run P w = .ok z w) {key : Value} {kl : Lit} (hkey : keyOf P k key = some kl) :
    (Instr.lookup t (.map (some b)) key true).run P w = .ok (.tuple #[(M kl).getD z, .bool (M kl).isSome]) w := by
  obtain ⟨D, h, h2⟩ := h
  obtain ⟨v, ps, hrun, hv⟩ := h.look_ok K ht hz (zd := .held z) (zp := []) rfl hkey
  rw [(h2 kl).2 z] at hv
  unfold anyElem at hv
  injection hv with hv
  injection hv with hv
  injection hv with hv
  rw [← hv, ← (h2 kl).1]; exact hrun
theorem OMap.store {t e : TypeId} (h : OMap w P k b n M) (K : Keyed P k) (ht : P.underlying t = some (.map k e)) (hn : n < maxLen) {key : Value} {kl : Lit} (hkey : keyOf P k key = some kl) (v : Value) :
    ∃ w', (Instr.mapUpdate t (.map (some b)) key v).run P w = .ok () w' ∧ OMap w' P k b (n + 1) (putM M kl v) ∧ w.grownBy w' (some b) := by
  obtain ⟨D, h, h2⟩ := h
  obtain ⟨w', hrun, h3, hg⟩ := h.update K ht hn hkey (val := v) (d := .held v) (ps := []) rfl
  refine ⟨w', hrun, ⟨_, h3, fun l => ?_⟩, hg⟩
  unfold putM
  by_cases hl : l = kl
  · subst hl
    rw [if_pos (WideAt.sameKey_self (K.key hkey))]
    exact ⟨has_put_same h.isMap (K.key hkey) _, fun z => atKey_put_same h.isMap (K.key hkey) _ _⟩
  · rw [if_neg (by rw [WideAt.sameKey_iff (K.key hkey)]; exact hl)]
    exact ⟨by rw [has_put_other hl]; exact (h2 l).1, fun z => by rw [atKey_put_other hl]; exact (h2 l).2 z⟩
end

/-- A set of keys, as a map to bools. -/
def setM (l : List Lit) : Lit → Option Value := fun x => if l.any (fun a => x.sameKey a) then some (.bool true) else none
theorem setM_nil : setM [] = fun _ => none := rfl
theorem setM_snoc (l : List Lit) (a : Lit) : putM (setM l) a (.bool true) = setM (l ++ [a]) := by
  funext x
  unfold putM setM
  rw [List.any_append]
  by_cases h : x.sameKey a = true
  · simp [h]
  · simp [h]
theorem setM_get (l : List Lit) (a : Lit) : (setM l a).getD (.bool false) = .bool (l.any fun b => a.sameKey b) := by
  unfold setM
  cases l.any fun b => a.sameKey b <;> rfl

section
variable {P : Program} (w : World) {ops : Array Oper} {rest : List Oper} {o : Oper} {a : Act} {Q : Exit → Act → World → Prop}
/-- 'm[k]' at the operation. -/
theorem wpList_look (hg : o.guard = none) (m x : Operand) (t : TypeId) (hop : o.op = Op.lookup t m x false)
    (k e : TypeId) (K : Keyed P k) (ht : P.underlying t = some (.map k e)) (z : Value) (hz : (zeroValue e).run P w = .ok z w) (b n : Nat) (M : Lit → Option Value)
    (hm : a.eval m = .map (some b)) (hown : OMap w P k b n M) (key : Value) (kl : Lit) (hx : a.eval x = key) (hkey : keyOf P k key = some kl)
    (hK : wpList P ops Q rest (a.put o.dst ((M kl).getD z)) w) : wpList P ops Q (o :: rest) a w := by
  refine wpList_plain hg fun K' hK' => ?_
  have hrun := hown.look K ht hz hkey
  unfold Oper.wp
  simp [execOp, hop, hm, hx, hrun, Result.andThen]
  exact hK' _ _ hK
/-- 'v, ok := m[k]' at the operation. -/
theorem wpList_look_ok (hg : o.guard = none) (m x : Operand) (t : TypeId) (hop : o.op = Op.lookup t m x true)
    (k e : TypeId) (K : Keyed P k) (ht : P.underlying t = some (.map k e)) (z : Value) (hz : (zeroValue e).run P w = .ok z w) (b n : Nat) (M : Lit → Option Value)
    (hm : a.eval m = .map (some b)) (hown : OMap w P k b n M) (key : Value) (kl : Lit) (hx : a.eval x = key) (hkey : keyOf P k key = some kl)
    (hK : wpList P ops Q rest (a.put o.dst (.tuple #[(M kl).getD z, .bool (M kl).isSome])) w) : wpList P ops Q (o :: rest) a w := by
  refine wpList_plain hg fun K' hK' => ?_
  have hrun := hown.look_ok K ht hz hkey
  unfold Oper.wp
  simp [execOp, hop, hm, hx, hrun, Result.andThen]
  exact hK' _ _ hK
/-- 'm[k] = v' at the operation. -/
theorem wpList_put (hg : o.guard = none) (m x v : Operand) (t : TypeId) (hop : o.op = Op.mapUpdate t m x v)
    (k e : TypeId) (K : Keyed P k) (ht : P.underlying t = some (.map k e)) (b n : Nat) (M : Lit → Option Value)
    (hm : a.eval m = .map (some b)) (hown : OMap w P k b n M) (hn : n < maxLen) (key val : Value) (kl : Lit) (hx : a.eval x = key) (hv : a.eval v = val) (hkey : keyOf P k key = some kl)
    (hK : ∀ w', OMap w' P k b (n + 1) (putM M kl val) → w.grownBy w' (some b) → wpList P ops Q rest (a.put o.dst undef) w') : wpList P ops Q (o :: rest) a w := by
  refine wpList_plain hg fun K' hK' => ?_
  obtain ⟨w', hrun, r1, r2⟩ := hown.store K ht hn hkey val
  unfold Oper.wp
  simp [execOp, hop, hm, hx, hv, hrun, Result.andThen]
  exact hK' _ _ (hK w' r1 r2)
end
end Go.Proofs.Ytljojgpjgjfddaa

/- The contract of graph.repeats. -/
namespace Go.Proofs.Ytljojgpjgjfddaa
open Go.RowKit Go.Maps
set_option linter.unusedVariables false

theorem lawStr : Keyed Try.prog 9 := string_keyed Try.underlying9
theorem zeroBool2 (w : World) : (zeroValue 4).run Try.prog w = .ok (.bool false) w := by kernel_rfl
theorem laidOutK : laidOutB Try.prog = true := by kernel_rfl
theorem rowArr2 : (163 : TypeId) < Try.prog.types.size := of_decide_eq_true (by kernel_rfl)
theorem cellsArr2 : Try.prog.cellsOf 163 = 2 := by kernel_rfl
theorem cellsInt : Try.prog.cellsOf 3 = 1 := by kernel_rfl
theorem deepArr2 : Try.prog.keyType 163 = true := by kernel_rfl
theorem wideArr2 : (match Try.prog.underlying 163 with | some (.array _ _) | some (.struct _) => true | _ => false) = true := by rw [Try.underlying163]
theorem deepArr2m : Try.prog.keyTypeAt 2 163 = true := by kernel_rfl
set_option maxRecDepth 100000 in
theorem lawArr2k : WideMaps.KeyLaw Try.prog 163 := deep_law_laid laidOutK (m := 2) (by omega) rowArr2 deepArr2m wideArr2
theorem lawArr2 : Keyed Try.prog 163 := Keyed.of_law lawArr2k
theorem formedArr2 {c0 c1 : Value} : (Value.agg #[c0, c1]).formed Try.prog 163 = true := by simp [Value.formed, Try.underlying163, cellsArr2]
/-- The key of a pair of ints. -/
def pk (x : Int × Int) : Lit := .string (keyBytes [.int .i64 x.1, .int .i64 x.2])
theorem keyArr2 {a b : Int} (ha : (Lit.int .i64 a).wf = true) (hb : (Lit.int .i64 b).wf = true) : keyOf Try.prog 163 (.agg #[.int .i64 a, .int .i64 b]) = some (pk (a, b)) := by
  unfold keyOf
  rw [Try.underlying163]
  simp only [deepArr2, formedArr2, Bool.and_self, if_true]
  have hs : ∃ n, Try.prog.types.size = n + 1 := ⟨Try.prog.types.size - 1, by have h : 0 < Try.prog.types.size := Nat.lt_of_le_of_lt (Nat.zero_le _) rowArr2; omega⟩
  obtain ⟨n, hn⟩ := hs
  rw [hn]
  simp [Program.keyLits, Try.underlying163, Try.underlying3, cellsArr2, cellsInt, Value.cells, ha, hb, List.range_succ, pk]
theorem pk_inj {x y : Int × Int} (hx : (Lit.int .i64 x.1).wf = true ∧ (Lit.int .i64 x.2).wf = true) (hy : (Lit.int .i64 y.1).wf = true ∧ (Lit.int .i64 y.2).wf = true) (h : pk x = pk y) : x = y := by
  have h1 := keyArr2 hx.1 hx.2
  have h2 := keyArr2 hy.1 hy.2
  rw [show (y.1, y.2) = y from rfl, ← h] at h2
  have := lawArr2.inj h1 h2
  simp at this
  exact Prod.ext this.1 this.2
end Go.Proofs.Ytljojgpjgjfddaa

/- The contract of graph.repeats. -/
namespace Go.Proofs.Ytljojgpjgjfddaa
open Go.RowKit Go.Maps
set_option linter.unusedVariables false

theorem take_snocG {α : Type} (d : α) (l : List α) (k : Nat) (h : k < l.length) : l.take (k + 1) = l.take k ++ [l.getD k d] := by
  rw [List.take_succ_eq_append_getElem h]; simp [List.getD, h]
def nameLits (ns : List Nd) (k : Nat) : List Lit := (ns.take k).map fun x => .string x.name.data.toList
theorem nameLits_snoc (ns : List Nd) (k : Nat) (h : k < ns.length) : nameLits ns (k + 1) = nameLits ns k ++ [.string (ns.getD k nd0).name.data.toList] := by
  unfold nameLits; rw [take_snocG nd0 ns k h, List.map_append]; rfl
theorem nameLits_any (ns : List Nd) (k : Nat) (x : Nd) : ((nameLits ns k).any fun b => (Lit.string x.name.data.toList).sameKey b) = (ns.take k).any fun y => sameName y x := by
  unfold nameLits
  rw [List.any_map]
  congr 1
  funext y
  show (x.name.data.toList == y.name.data.toList) = (y.name.data.toList == x.name.data.toList)
  exact BEq.comm
def endLits (es : List (Int × Int)) (k : Nat) : List Lit := (es.take k).map pk
theorem endLits_snoc (es : List (Int × Int)) (k : Nat) (h : k < es.length) : endLits es (k + 1) = endLits es k ++ [pk (es.getD k (0, 0))] := by
  unfold endLits; rw [take_snocG (0, 0) es k h, List.map_append]; rfl
def WfE (x : Int × Int) : Prop := (Lit.int .i64 x.1).wf = true ∧ (Lit.int .i64 x.2).wf = true
theorem endLits_any (es : List (Int × Int)) (k : Nat) (x : Int × Int) (hw : ∀ y ∈ es, WfE y) (hx : WfE x) : ((endLits es k).any fun b => (pk x).sameKey b) = (es.take k).any fun y => samePair y x := by
  unfold endLits
  rw [List.any_map, Bool.eq_iff_iff, List.any_eq_true, List.any_eq_true]
  have key : ∀ y ∈ es, ((pk x).sameKey (pk y) = true ↔ samePair y x = true) := by
    intro y hy
    have h1 : ((pk x).sameKey (pk y) = true) ↔ pk x = pk y := by
      unfold pk; simp only [Lit.sameKey]; simp
    rw [h1]
    constructor
    · intro h
      have := pk_inj hx (hw y hy) h
      rw [this]; simp [samePair]
    · intro h
      simp [samePair] at h
      have : y = x := Prod.ext h.1 h.2
      rw [this]
  constructor
  · rintro ⟨y, hy, h⟩; exact ⟨y, hy, (key y (List.mem_of_mem_take hy)).1 h⟩
  · rintro ⟨y, hy, h⟩; exact ⟨y, hy, (key y (List.mem_of_mem_take hy)).2 h⟩
theorem endsOf_length (cs : List Cb) : (endsOf cs).length = 2 * cs.length := by
  unfold endsOf
  induction cs with
  | nil => rfl
  | cons x l ih => rw [List.flatMap_cons, List.length_append, ih]; simp; omega
theorem endsOf_at (cs : List Cb) (k : Nat) (h : k < cs.length) : (endsOf cs).getD (2 * k) (0, 0) = ((cs.getD k cb0).a, (cs.getD k cb0).ap) ∧ (endsOf cs).getD (2 * k + 1) (0, 0) = ((cs.getD k cb0).b, (cs.getD k cb0).bp) := by
  unfold endsOf
  induction cs generalizing k with
  | nil => simp at h
  | cons x l ih =>
    cases k with
    | zero => exact ⟨rfl, rfl⟩
    | succ k =>
      have := ih k (by simpa using h)
      rw [show 2 * (k + 1) = 2 * k + 2 by omega, show 2 * k + 2 + 1 = 2 * k + 1 + 2 by omega]
      rw [List.flatMap_cons]
      exact this
theorem endsOf_wf (cs : List Cb) (h : ∀ x ∈ cs, WfC x) : ∀ y ∈ endsOf cs, WfE y := by
  intro y hy
  unfold endsOf at hy
  rw [List.mem_flatMap] at hy
  obtain ⟨x, hx, hy⟩ := hy
  have := h x hx
  simp at hy
  rcases hy with rfl | rfl
  · exact ⟨this.1, this.2.1⟩
  · exact ⟨this.2.2.1, this.2.2.2.1⟩

theorem run_ix0 (a b c d : Value) (w : World) : (Instr.index 164 (.agg #[a, b, c, d]) (.int .i64 0)).run Try.prog w = .ok (.agg #[a, b]) w := by kernel_rfl
theorem run_ix1 (a b c d : Value) (w : World) : (Instr.index 164 (.agg #[a, b, c, d]) (.int .i64 1)).run Try.prog w = .ok (.agg #[c, d]) w := by kernel_rfl

def RelN (ns : List Nd) (w1 : World) (b : Nat) (i : Value) (wr : World) : Prop :=
  ∃ k : Nat, k ≤ ns.length ∧ i = .int .i64 k ∧ OMap wr Try.prog 9 b k (setM (nameLits ns k)) ∧ twTo sameName nd0 ns k = false ∧ Below b w1 wr
def RelE (es : List (Int × Int)) (w1 : World) (b : Nat) (e : Nat) (wr : World) : Prop :=
  OMap wr Try.prog 163 b e (setM (endLits es e)) ∧ twTo samePair (0, 0) es e = false ∧ Below b w1 wr
def RelC (cs : List Cb) (w1 : World) (b : Nat) (i : Value) (wr : World) : Prop :=
  ∃ k : Nat, k ≤ cs.length ∧ i = .int .i64 k ∧ RelE (endsOf cs) w1 b (2 * k) wr
def RelC2 (cs : List Cb) (w1 : World) (b k : Nat) (i : Value) (wr : World) : Prop :=
  ∃ j : Nat, j ≤ 2 ∧ i = .int .i64 j ∧ RelE (endsOf cs) w1 b (2 * k + j) wr

set_option maxRecDepth 100000 in
set_option maxHeartbeats 4000000 in
theorem repeats_any (p : Pl) (An Ac : Option Addr) (cn cc : Nat) (w : World) (hl : p.ns.length ≤ 1000000) (hl2 : p.cs.length ≤ 1000000) (hwf : WfP p) (h : IsPlan w An Ac p) :
    Calls Try.prog 80 #[.agg #[.slice An p.ns.length cn, .slice Ac p.cs.length cc]] w fun e w' => e = .returned (.bool (repeatsB p)) ∧ Below w.heap.size w w' := by
  obtain ⟨ns, cs⟩ := p
  simp only at hl hl2 ⊢
  have H := Lib.hid h
  have HW := Lib.hid hwf
  clear h hwf
  have hmm := @run_makeMap Try.prog
  have HB0 : Hid ((w.alloc (.cells #[.slice An ns.length cn, .slice Ac cs.length cc] 25)).cell? ⟨w.heap.size, 0, none⟩ = some (.slice An ns.length cn)) := by
    show _ = _; simp [go_sem]
  have HB1 : Hid ((w.alloc (.cells #[.slice An ns.length cn, .slice Ac cs.length cc] 25)).cell? ⟨w.heap.size, 1, none⟩ = some (.slice Ac cs.length cc)) := by
    show _ = _; simp [go_sem]
  have H1 := Lib.hid (H.out.alloc (.cells #[.slice An ns.length cn, .slice Ac cs.length cc] 25))
  have HBW : Hid (Below w.heap.size w (w.alloc (.cells #[.slice An ns.length cn, .slice Ac cs.length cc] 25))) := (Below.refl _ _).alloc (Nat.le_refl _) _
  have hsz : (w.alloc (.cells #[.slice An ns.length cn, .slice Ac cs.length cc] 25)).heap.size = w.heap.size + 1 := by simp
  clear H
  go_enter Try.func80, Try.ntmps80
  go_wp2_with fail
  clear hmm
  go_loopw [15] (fun i wr => RelN ns (w.alloc (.cells #[.slice An ns.length cn, .slice Ac cs.length cc] 25)) (w.heap.size + 1) i wr) (fun i _ => ns.length - (intOf i).toNat)
  case atStart =>
    refine ⟨0, Nat.zero_le _, rfl, ?_, rfl, ?_⟩
    · have := OMap.made (w.alloc (.cells #[.slice An ns.length cn, .slice Ac cs.length cc] 25)) Try.prog 9
      rw [hsz] at this; exact this
    · rw [← hsz]; exact (Below.refl _ _).alloc (Nat.le_refl _) _
  case round =>
    generalize w.alloc (.cells #[.slice An ns.length cn, .slice Ac cs.length cc] 25) = w1 at *
    obtain ⟨k, hk, rfl, om, htw, bel⟩ := hrel
    have HTW := Lib.hid htw
    clear htw
    have bs := bel.size
    have HP := Lib.hid (H1.out.below (by omega) bel)
    by_cases hkr : k < ns.length
    · obtain ⟨bb, off, ha, hbb, hmem, c0, c1, c2⟩ := node_at HP.out.1 k hkr
      have hwn : (ns.getD k nd0).name.size ≤ maxLen := (HW.out.1 _ hmem).1
      have NS := Lib.hid (nameLits_snoc ns k hkr)
      have NA := Lib.hid (nameLits_any ns k (ns.getD k nd0))
      have TS := Lib.hid (twTo_succ sameName nd0 ns k)
      generalize ns.getD k nd0 = x at *
      have HK : Hid (keyOf Try.prog 9 (.string x.name) = some (.string x.name.data.toList)) := WideMaps.keyOf_string_mk Try.underlying9 hwn
      subst ha
      have SG := Lib.hid (setM_get (nameLits ns k) (.string x.name.data.toList))
      cases hin : (ns.take k).any fun y => sameName y x with
      | true =>
        have TG : Hid ((setM (nameLits ns k) (.string x.name.data.toList)).getD (.bool false) = .bool true) := by
          show _ = _; rw [SG.out, NA.out, hin]
        have FIN : Hid (repeatsB ⟨ns, cs⟩ = true) := by
          show _ = _
          unfold repeatsB twiceB
          rw [twTo_mono sameName nd0 ns (k + 1) (by rw [TS.out, hin]; simp) ns.length (by omega)]; rfl
        have BW : Hid (Below w.heap.size w (wr.alloc (.cells #[.string x.name, .bool x.sw, .int .i64 x.ports] 105))) :=
          (HBW.out.trans (bel.mono (by omega))).alloc (by have := HBW.out.size; omega) _
        clear NS NA SG TS hin hmem hwn HTW HP
        go_wp2_with (at_lookup; refine wpList_look _ rfl _ _ 161 rfl 9 4 lawStr Try.underlying161 (.bool false) (zeroBool2 _) (w.heap.size + 1) _ _ rfl (om.alloc _) _ (.string x.name.data.toList) rfl HK.out ?_; rw [TG.out])
        go_ret
        exact ⟨by rw [FIN.out]; rfl, BW.out⟩
      | false =>
        have TG : Hid ((setM (nameLits ns k) (.string x.name.data.toList)).getD (.bool false) = .bool false) := by
          show _ = _; rw [SG.out, NA.out, hin]
        have TW : Hid (twTo sameName nd0 ns (k + 1) = false) := by
          show _ = _; rw [TS.out, HTW.out, hin]; rfl
        clear SG NA TS hin hmem hwn HTW HP
        go_wp2_with (first | (at_lookup; refine wpList_look _ rfl _ _ 161 rfl 9 4 lawStr Try.underlying161 (.bool false) (zeroBool2 _) (w.heap.size + 1) _ _ rfl (om.alloc _) _ (.string x.name.data.toList) rfl HK.out ?_; rw [TG.out]) | (at_mapUpdate; refine wpList_put _ rfl _ _ _ 161 rfl 9 4 lawStr Try.underlying161 (w.heap.size + 1) k _ rfl (om.alloc _) ?d1 _ _ (.string x.name.data.toList) rfl rfl HK.out ?_))
        case d1 => unfold maxLen; omega
        intro w2 om2 gr2
        have R : RelN ns w1 (w.heap.size + 1) (.int .i64 ((k + 1 : Nat) : Int)) w2 := by
          refine ⟨k + 1, by omega, rfl, ?_, TW.out, ?_⟩
          · rw [NS.out, ← setM_snoc]; exact om2
          · exact (bel.alloc (by omega) _).grown gr2 (by simp; omega) (by intro g e; injection e with e; omega)
        clear om2 gr2 om
        go_wp2
        exact ⟨by simpa using R, by simp [intOf]; omega⟩
    · obtain rfl : k = ns.length := by omega
      have d0 : wr.cell? ⟨w.heap.size, 0, none⟩ = some (.slice An ns.length cn) := by rw [bel.cell (by show w.heap.size < _; omega)]; exact HB0.out
      have d1 : wr.cell? ⟨w.heap.size, 1, none⟩ = some (.slice Ac cs.length cc) := by rw [bel.cell (by show w.heap.size < _; omega)]; exact HB1.out
      have BW := Lib.hid (HBW.out.trans (bel.mono (by omega)))
      have bw : w.heap.size < wr.heap.size := by omega
      clear HB0 HB1 H1 HBW om
      have hmm := @run_makeMap Try.prog
      obtain ⟨w2, rfl⟩ : ∃ w2 : World, w2 = wr := ⟨_, rfl⟩
      go_wp2_with fail
      clear hmm
      go_loopw [31] (fun i wr => RelC cs w2 w2.heap.size i wr) (fun i _ => cs.length - (intOf i).toNat)
      case atStart => exact ⟨0, Nat.zero_le _, rfl, OMap.made _ _ _, rfl, (Below.refl _ _).alloc (Nat.le_refl _) _⟩
      case round =>
        obtain ⟨k, hk2, rfl, om, htw, belC⟩ := hrel
        have bc := belC.size
        have HPC := Lib.hid (HP.out.below (Nat.le_refl _) belC)
        have hlt2 : w2.heap.size < wr.heap.size := om.lt
        have OM := Lib.hid om
        have HT2 := Lib.hid htw
        clear om htw
        by_cases hkc : k < cs.length
        · obtain ⟨bb, off, ha, hbb, hmem, c0, c1, c2, c3, c4, c5⟩ := cable_at HPC.out.2 k hkc
          have EL := Lib.hid (endsOf_length cs)
          have EA := Lib.hid (endsOf_at cs k hkc)
          have EW := Lib.hid (endsOf_wf cs HW.out.2)
          have WX := Lib.hid (HW.out.2 _ hmem)
          generalize cs.getD k cb0 = x at *
          subst ha
          obtain ⟨xa, xap, xb, xbp, xdl, xcp⟩ := x
          simp only at c0 c1 c2 c3 c4 c5
          have ST : Hid (RelE (endsOf cs) w2 w2.heap.size (2 * k + 0) (wr.alloc (.cells #[.int .i64 xa, .int .i64 xap, .int .i64 xb, .int .i64 xbp, .int .i64 xdl, .int .i64 xcp] 73))) :=
            ⟨OM.out.alloc _, HT2.out, belC.alloc bc _⟩
          clear OM HT2 hmem HPC
          go_wp2_with fail
          clear c0 c1 c2 c3 c4 c5
          go_loopw [46] (fun i wr => RelC2 cs w2 w2.heap.size k i wr) (fun i _ => 2 - (intOf i).toNat)
          case atStart => exact ⟨0, by omega, rfl, ST.out⟩
          case round =>
            clear ST
            obtain ⟨j, hj, rfl, om, htw, belE⟩ := hrel
            have be := belE.size
            have HTE := Lib.hid htw
            clear htw
            by_cases hj2 : j < 2
            · obtain ⟨y0, y1, hy, hyv⟩ : ∃ y0 y1, (endsOf cs).getD (2 * k + j) (0, 0) = (y0, y1) ∧ ((j = 0 ∧ y0 = xa ∧ y1 = xap) ∨ (j = 1 ∧ y0 = xb ∧ y1 = xbp)) := by
                rcases (by omega : j = 0 ∨ j = 1) with rfl | rfl
                · exact ⟨xa, xap, EA.out.1, .inl ⟨rfl, rfl, rfl⟩⟩
                · exact ⟨xb, xbp, EA.out.2, .inr ⟨rfl, rfl, rfl⟩⟩
              have wy : WfE (y0, y1) := by
                rcases hyv with ⟨_, rfl, rfl⟩ | ⟨_, rfl, rfl⟩
                · exact ⟨WX.out.1, WX.out.2.1⟩
                · exact ⟨WX.out.2.2.1, WX.out.2.2.2.1⟩
              have hle : 2 * k + j < (endsOf cs).length := by rw [EL.out]; omega
              have ES := Lib.hid (endLits_snoc (endsOf cs) (2 * k + j) hle)
              have NA := Lib.hid (endLits_any (endsOf cs) (2 * k + j) (y0, y1) EW.out wy)
              have TS := Lib.hid (twTo_succ samePair (0, 0) (endsOf cs) (2 * k + j))
              rw [hy] at ES TS
              have HK : Hid (keyOf Try.prog 163 (.agg #[.int .i64 y0, .int .i64 y1]) = some (pk (y0, y1))) := keyArr2 wy.1 wy.2
              have SG := Lib.hid (setM_get (endLits (endsOf cs) (2 * k + j)) (pk (y0, y1)))
              clear hy wy
              cases hin : ((endsOf cs).take (2 * k + j)).any fun y => samePair y (y0, y1) with
              | true =>
                have TG : Hid ((setM (endLits (endsOf cs) (2 * k + j)) (pk (y0, y1))).getD (.bool false) = .bool true) := by
                  show _ = _; rw [SG.out, NA.out, hin]
                have FIN : Hid (repeatsB ⟨ns, cs⟩ = true) := by
                  show _ = _
                  unfold repeatsB twiceB
                  simp only
                  rw [twTo_mono samePair (0, 0) (endsOf cs) (2 * k + j + 1) (by rw [TS.out, hin]; simp) (endsOf cs).length hle]; simp
                have BWE : Hid (Below w.heap.size w (wr.alloc (.cells #[.int .i64 y0, .int .i64 y1] 163))) :=
                  (BW.out.trans (belE.mono (by omega))).alloc (by omega) _
                clear ES NA SG TS hin HTE EW EL EA WX HP HW
                have ix0 := run_ix0
                have ix1 := run_ix1
                rcases hyv with ⟨rfl, rfl, rfl⟩ | ⟨rfl, rfl, rfl⟩
                all_goals
                  go_wp2_with (at_lookup; refine wpList_look _ rfl _ _ 162 rfl 163 4 lawArr2 Try.underlying162 (.bool false) (zeroBool2 _) w2.heap.size _ _ rfl (om.alloc _) _ _ rfl HK.out ?_; rw [TG.out])
                  go_ret
                  exact ⟨by rw [FIN.out]; rfl, BWE.out⟩
              | false =>
                have TG : Hid ((setM (endLits (endsOf cs) (2 * k + j)) (pk (y0, y1))).getD (.bool false) = .bool false) := by
                  show _ = _; rw [SG.out, NA.out, hin]
                have TW : Hid (twTo samePair (0, 0) (endsOf cs) (2 * k + j + 1) = false) := by
                  show _ = _; rw [TS.out, HTE.out, hin]; rfl
                clear SG NA TS hin HTE EW EL EA WX HP HW hle
                have ix0 := run_ix0
                have ix1 := run_ix1
                rcases hyv with ⟨rfl, rfl, rfl⟩ | ⟨rfl, rfl, rfl⟩
                · go_wp2_with (first | (at_lookup; refine wpList_look _ rfl _ _ 162 rfl 163 4 lawArr2 Try.underlying162 (.bool false) (zeroBool2 _) w2.heap.size _ _ rfl (om.alloc _) _ _ rfl HK.out ?_; rw [TG.out]) | (at_mapUpdate; refine wpList_put _ rfl _ _ _ 162 rfl 163 4 lawArr2 Try.underlying162 w2.heap.size (2 * k + 0) _ rfl (om.alloc _) ?d1 _ _ _ rfl rfl HK.out ?_))
                  case d1 => unfold maxLen; omega
                  intro w3 om3 gr3
                  have R : RelC2 cs w2 w2.heap.size k (.int .i64 ((0 + 1 : Nat) : Int)) w3 := by
                    refine ⟨0 + 1, by omega, rfl, ?_, TW.out, ?_⟩
                    · rw [← Nat.add_assoc, ES.out, ← setM_snoc]; exact om3
                    · exact (belE.alloc be _).grown gr3 (by simp; omega) (by intro g e; injection e with e; omega)
                  clear om3 gr3 om
                  go_wp2
                  exact ⟨by simpa using R, by simp [intOf]⟩
                · go_wp2_with (first | (at_lookup; refine wpList_look _ rfl _ _ 162 rfl 163 4 lawArr2 Try.underlying162 (.bool false) (zeroBool2 _) w2.heap.size _ _ rfl (om.alloc _) _ _ rfl HK.out ?_; rw [TG.out]) | (at_mapUpdate; refine wpList_put _ rfl _ _ _ 162 rfl 163 4 lawArr2 Try.underlying162 w2.heap.size (2 * k + 1) _ rfl (om.alloc _) ?d1 _ _ _ rfl rfl HK.out ?_))
                  case d1 => unfold maxLen; omega
                  intro w3 om3 gr3
                  have R : RelC2 cs w2 w2.heap.size k (.int .i64 ((1 + 1 : Nat) : Int)) w3 := by
                    refine ⟨1 + 1, by omega, rfl, ?_, TW.out, ?_⟩
                    · rw [← Nat.add_assoc, ES.out, ← setM_snoc]; exact om3
                    · exact (belE.alloc be _).grown gr3 (by simp; omega) (by intro g e; injection e with e; omega)
                  clear om3 gr3 om
                  go_wp2
                  exact ⟨by simpa using R, by simp [intOf]⟩
            · obtain rfl : j = 2 := by omega
              have R : Hid (RelC cs w2 w2.heap.size (.int .i64 ((k + 1 : Nat) : Int)) wr) := ⟨k + 1, by omega, rfl, om, HTE.out, belE⟩
              clear om HTE
              go_wp2
              exact ⟨by simpa using R.out, by simp [intOf]; omega⟩
        · obtain rfl : k = cs.length := by omega
          have FIN : Hid (repeatsB ⟨ns, cs⟩ = false) := by
            show _ = _
            unfold repeatsB twiceB
            simp only
            rw [endsOf_length, HT2.out, HTW.out]; rfl
          have BWE := Lib.hid (BW.out.trans (belC.mono (by omega)))
          clear HTW HT2 OM HPC HP
          go_wp2_with fail
          go_ret
          exact ⟨by rw [FIN.out]; rfl, BWE.out⟩
end Go.Proofs.Ytljojgpjgjfddaa

/- The contract of graph.Valid. -/
namespace Go.Proofs.Ytljojgpjgjfddaa
open Go.RowKit Go.Maps
set_option linter.unusedVariables false

/-- All of the first k elements are alright; the world has grown. -/
def RelAll {α : Type} (f : α → Bool) (xs : List α) (B : Nat) (w1 : World) (i : Value) (wr : World) : Prop :=
  ∃ k : Nat, k ≤ xs.length ∧ i = .int .i64 k ∧ (xs.take k).all f = true ∧ Below B w1 wr
theorem all_snoc {α : Type} (f : α → Bool) (d : α) (xs : List α) (k : Nat) (h : k < xs.length) : (xs.take (k + 1)).all f = ((xs.take k).all f && f (xs.getD k d)) := by
  rw [take_snocG d xs k h, List.all_append]; simp
theorem all_bad {α : Type} (f : α → Bool) (d : α) (xs : List α) (k : Nat) (h : k < xs.length) (hf : f (xs.getD k d) = false) : xs.all f = false := by
  rw [List.all_eq_false]
  exact ⟨xs.getD k d, by simp [List.getD, h], by rw [hf]; simp⟩

section
variable {p : Pl}
theorem validP5 (h : 16 < p.ns.length ∨ 32 < p.cs.length) : validP p = 5 := by unfold validP; rw [if_pos h]
theorem validP1 (h : ¬(16 < p.ns.length ∨ 32 < p.cs.length)) (h1 : p.ns.all okNode = false) : validP p = 1 := by unfold validP; rw [if_neg h, if_pos h1]
theorem validP2 (h : ¬(16 < p.ns.length ∨ 32 < p.cs.length)) (h1 : p.ns.all okNode = true) (h2 : p.cs.all (okPorts p.ns) = false) : validP p = 2 := by unfold validP; rw [if_neg h, if_neg (by rw [h1]; simp), if_pos h2]
theorem validP8 (h : ¬(16 < p.ns.length ∨ 32 < p.cs.length)) (h1 : p.ns.all okNode = true) (h2 : p.cs.all (okPorts p.ns) = true) (h3 : repeatsB p = true) : validP p = 8 := by unfold validP; rw [if_neg h, if_neg (by rw [h1]; simp), if_neg (by rw [h2]; simp), if_pos h3]
theorem validP12 (h : ¬(16 < p.ns.length ∨ 32 < p.cs.length)) (h1 : p.ns.all okNode = true) (h2 : p.cs.all (okPorts p.ns) = true) (h3 : repeatsB p = false) (h4 : (p.cs.all fun x => decide (x.a ≠ x.b)) = false) : validP p = 12 := by unfold validP; rw [if_neg h, if_neg (by rw [h1]; simp), if_neg (by rw [h2]; simp), if_neg (by rw [h3]; simp), if_pos h4]
theorem validP3 (h : ¬(16 < p.ns.length ∨ 32 < p.cs.length)) (h1 : p.ns.all okNode = true) (h2 : p.cs.all (okPorts p.ns) = true) (h3 : repeatsB p = false) (h4 : (p.cs.all fun x => decide (x.a ≠ x.b)) = true) (h5 : p.cs.all okForm = false) : validP p = 3 := by unfold validP; rw [if_neg h, if_neg (by rw [h1]; simp), if_neg (by rw [h2]; simp), if_neg (by rw [h3]; simp), if_neg (by rw [h4]; simp), if_pos h5]
theorem validP0 (h : ¬(16 < p.ns.length ∨ 32 < p.cs.length)) (h1 : p.ns.all okNode = true) (h2 : p.cs.all (okPorts p.ns) = true) (h3 : repeatsB p = false) (h4 : (p.cs.all fun x => decide (x.a ≠ x.b)) = true) (h5 : p.cs.all okForm = true) : validP p = 0 := by unfold validP; rw [if_neg h, if_neg (by rw [h1]; simp), if_neg (by rw [h2]; simp), if_neg (by rw [h3]; simp), if_neg (by rw [h4]; simp), if_neg (by rw [h5]; simp)]
end

theorem port_any2 (ns : List Nd) (cs : List Cb) (An Ac : Option Addr) (cn cc : Nat) (node port : Int) (w : World) (hl : ns.length ≤ 1000000) (h : IsPlan w An Ac ⟨ns, cs⟩) (r : Bool) (hr : hasPort ns node port = r)
    (ob : Obj) (hob : Obj.cells #[.slice An ns.length cn, .slice Ac cs.length cc] 25 = ob) :
    Calls Try.prog 79 #[.agg #[.slice An ns.length cn, .slice Ac cs.length cc], .int .i64 node, .int .i64 port] w fun e w' => e = .returned (.bool r) ∧ w.alloc ob = w' := by
  subst hr; subst hob
  exact port_any ⟨ns, cs⟩ An Ac cn cc node port w hl h

set_option maxRecDepth 100000 in
set_option maxHeartbeats 8000000 in
theorem gvalid_any (p : Pl) (An Ac : Option Addr) (cn cc : Nat) (w : World) (hl : p.ns.length ≤ 1000000) (hl2 : p.cs.length ≤ 1000000) (hwf : WfP p) (h : IsPlan w An Ac p) :
    Calls Try.prog 43 #[.agg #[.slice An p.ns.length cn, .slice Ac p.cs.length cc]] w fun e w' => e = .returned (.int .i64 (validP p)) ∧ Below w.heap.size w w' := by
  obtain ⟨ns, cs⟩ := p
  simp only at hl hl2 ⊢
  have H := Lib.hid h
  have HW := Lib.hid hwf
  clear h hwf
  have HB0 : Hid ((w.alloc (.cells #[.slice An ns.length cn, .slice Ac cs.length cc] 25)).cell? ⟨w.heap.size, 0, none⟩ = some (.slice An ns.length cn)) := by
    show _ = _; simp [go_sem]
  have HB1 : Hid ((w.alloc (.cells #[.slice An ns.length cn, .slice Ac cs.length cc] 25)).cell? ⟨w.heap.size, 1, none⟩ = some (.slice Ac cs.length cc)) := by
    show _ = _; simp [go_sem]
  have H1 := Lib.hid (H.out.alloc (.cells #[.slice An ns.length cn, .slice Ac cs.length cc] 25))
  have HBW : Hid (Below w.heap.size w (w.alloc (.cells #[.slice An ns.length cn, .slice Ac cs.length cc] 25))) := (Below.refl _ _).alloc (Nat.le_refl _) _
  have hsz : (w.alloc (.cells #[.slice An ns.length cn, .slice Ac cs.length cc] 25)).heap.size = w.heap.size + 1 := by simp
  clear H
  by_cases h16 : 16 < ns.length
  · have FIN := Lib.hid (validP5 (p := ⟨ns, cs⟩) (.inl h16))
    go_enter Try.func43, Try.ntmps43
    go_wp2_with fail
    go_ret
    exact ⟨by rw [FIN.out]; rfl, HBW.out⟩
  by_cases h32 : 32 < cs.length
  · have FIN := Lib.hid (validP5 (p := ⟨ns, cs⟩) (.inr h32))
    go_enter Try.func43, Try.ntmps43
    go_wp2_with fail
    go_ret
    exact ⟨by rw [FIN.out]; rfl, HBW.out⟩
  have V : Hid (¬(16 < (⟨ns, cs⟩ : Pl).ns.length ∨ 32 < (⟨ns, cs⟩ : Pl).cs.length)) := by
    rintro (h | h)
    · exact h16 h
    · exact h32 h
  go_enter Try.func43, Try.ntmps43
  go_wp2_with fail
  go_loopw [24] (fun i wr => RelAll okNode ns (w.heap.size + 1) (w.alloc (.cells #[.slice An ns.length cn, .slice Ac cs.length cc] 25)) i wr) (fun i _ => ns.length - (intOf i).toNat)
  case atStart => exact ⟨0, Nat.zero_le _, rfl, rfl, Below.refl _ _⟩
  case round =>
    generalize w.alloc (.cells #[.slice An ns.length cn, .slice Ac cs.length cc] 25) = w1 at *
    obtain ⟨k, hk, rfl, hall, bel⟩ := hrel
    have bs := bel.size
    have HA := Lib.hid hall
    clear hall
    have HP := Lib.hid (H1.out.below (by omega) bel)
    by_cases hkr : k < ns.length
    · obtain ⟨bb, off, ha, hbb, hmem, c0, c1, c2⟩ := node_at HP.out.1 k hkr
      have AS := Lib.hid (all_snoc okNode nd0 ns k hkr)
      have AB := Lib.hid (all_bad okNode nd0 ns k hkr)
      generalize ns.getD k nd0 = x at *
      subst ha
      cases hx : okNode x with
      | false =>
        have FIN := Lib.hid (validP1 (p := ⟨ns, cs⟩) V.out (AB.out hx))
        have HX := Lib.hid hx
        have BW : Hid (Below w.heap.size w ((wr.alloc (.cells #[.string x.name, .bool x.sw, .int .i64 x.ports] 105)).alloc (.cells #[.string x.name, .bool x.sw, .int .i64 x.ports] 105))) :=
          ((HBW.out.trans (bel.mono (by omega))).alloc (by omega) _).alloc (by simp; omega) _
        clear hx AS AB HA HP hmem V
        go_wp2_with (go_at_call 78; refine (node_any x _).mono ?_; rintro r w' ⟨rfl, rfl⟩; rw [HX.out])
        go_ret
        exact ⟨by rw [FIN.out]; rfl, BW.out⟩
      | true =>
        have HX := Lib.hid hx
        have R : Hid (RelAll okNode ns (w.heap.size + 1) w1 (.int .i64 ((k + 1 : Nat) : Int)) ((wr.alloc (.cells #[.string x.name, .bool x.sw, .int .i64 x.ports] 105)).alloc (.cells #[.string x.name, .bool x.sw, .int .i64 x.ports] 105))) :=
          ⟨k + 1, by omega, rfl, by rw [AS.out, HA.out, hx]; rfl, (bel.alloc (by omega) _).alloc (by simp; omega) _⟩
        clear hx AS AB HA HP hmem V
        go_wp2_with (go_at_call 78; refine (node_any x _).mono ?_; rintro r w' ⟨rfl, rfl⟩; rw [HX.out])
        exact ⟨by simpa using R.out, by simp [intOf]; omega⟩
    · obtain rfl : k = ns.length := by omega
      rw [List.take_length] at HA
      have d0 : wr.cell? ⟨w.heap.size, 0, none⟩ = some (.slice An ns.length cn) := by rw [bel.cell (by show w.heap.size < _; omega)]; exact HB0.out
      have d1 : wr.cell? ⟨w.heap.size, 1, none⟩ = some (.slice Ac cs.length cc) := by rw [bel.cell (by show w.heap.size < _; omega)]; exact HB1.out
      have BW := Lib.hid (HBW.out.trans (bel.mono (by omega)))
      have bw : w.heap.size < wr.heap.size := by omega
      have D0 := Lib.hid d0
      have D1 := Lib.hid d1
      clear HB0 HB1 H1 HBW bel bs hsz hk hkr
      obtain ⟨w2, rfl⟩ : ∃ w2 : World, w2 = wr := ⟨_, rfl⟩
      go_wp2_with fail
      go_loopw [35] (fun i wr => RelAll (okPorts ns) cs w2.heap.size w2 i wr) (fun i _ => cs.length - (intOf i).toNat)
      case atStart => exact ⟨0, Nat.zero_le _, rfl, rfl, Below.refl _ _⟩
      case round =>
        clear d0 d1
        obtain ⟨k, hk, rfl, hall, belC⟩ := hrel
        have bc := belC.size
        have HC := Lib.hid hall
        clear hall
        have HPC := Lib.hid (HP.out.below (Nat.le_refl _) belC)
        have e0 : wr.cell? ⟨w.heap.size, 0, none⟩ = some (.slice An ns.length cn) := by rw [belC.cell (by exact bw)]; exact D0.out
        have e1 : wr.cell? ⟨w.heap.size, 1, none⟩ = some (.slice Ac cs.length cc) := by rw [belC.cell (by exact bw)]; exact D1.out
        have bwr : w.heap.size < wr.heap.size := by omega
        by_cases hkr : k < cs.length
        · obtain ⟨bb, off, ha, hbb, hmem, c0, c1, c2, c3, c4, c5⟩ := cable_at HPC.out.2 k hkr
          have AS := Lib.hid (all_snoc (okPorts ns) cb0 cs k hkr)
          have AB := Lib.hid (all_bad (okPorts ns) cb0 cs k hkr)
          generalize cs.getD k cb0 = x at *
          have HAn : Hid (IsPlan wr An (some ⟨bb, off, none⟩) ⟨ns, cs⟩) := by rw [← ha]; exact HPC.out
          subst ha
          obtain ⟨xa, xap, xb, xbp, xdl, xcp⟩ := x
          simp only at c0 c1 c2 c3 c4 c5
          clear hmem HPC
          obtain ⟨ob, hob⟩ : ∃ ob, Obj.cells #[Value.slice An ns.length cn, .slice (some ⟨bb, off, none⟩) cs.length cc] 25 = ob := ⟨_, rfl⟩
          have HOB := Lib.hid hob
          clear hob
          cases hx : hasPort ns xa xap with
          | false =>
            have FIN := Lib.hid (validP2 (p := ⟨ns, cs⟩) V.out HA.out (AB.out (by simp [okPorts, hx])))
            have HX := Lib.hid hx
            have BW2 : Hid (Below w.heap.size w ((wr.alloc (.cells #[.int .i64 xa, .int .i64 xap, .int .i64 xb, .int .i64 xbp, .int .i64 xdl, .int .i64 xcp] 73)).alloc ob)) :=
              ((BW.out.trans (belC.mono (by omega))).alloc (by omega) _).alloc (by simp; omega) _
            clear hx AS AB HA HC HP V
            go_wp2_with (go_at_call 79; refine (port_any2 ns cs An _ cn cc xa xap _ hl (HAn.out.alloc _) _ HX.out ob HOB.out).mono ?_; rintro r w' ⟨rfl, rfl⟩)
            go_ret
            exact ⟨by rw [FIN.out]; rfl, BW2.out⟩
          | true =>
            have HX := Lib.hid hx
            have BB : Hid (Below w2.heap.size w2 (((wr.alloc (.cells #[.int .i64 xa, .int .i64 xap, .int .i64 xb, .int .i64 xbp, .int .i64 xdl, .int .i64 xcp] 73)).alloc ob).alloc ob)) :=
              ((belC.alloc bc _).alloc (by simp; omega) _).alloc (by simp; omega) _
            cases hy : hasPort ns xb xbp with
            | false =>
              have FIN := Lib.hid (validP2 (p := ⟨ns, cs⟩) V.out HA.out (AB.out (by simp [okPorts, hy])))
              have HY := Lib.hid hy
              clear hx hy AS AB HA HC HP V
              go_wp2_with fail
              refine (port_any2 ns cs An _ cn cc xa xap _ hl (HAn.out.alloc _) _ HX.out ob HOB.out).mono ?_
              rintro r w' ⟨rfl, rfl⟩
              go_wp2_with fail
              refine (port_any2 ns cs An _ cn cc xb xbp _ hl ((HAn.out.alloc _).alloc _) _ HY.out ob HOB.out).mono ?_
              rintro r w' ⟨rfl, rfl⟩
              go_wp2_with fail
              go_ret
              exact ⟨by rw [FIN.out]; rfl, BW.out.trans (BB.out.mono (by omega))⟩
            | true =>
              have HY := Lib.hid hy
              have R : Hid (RelAll (okPorts ns) cs w2.heap.size w2 (.int .i64 ((k + 1 : Nat) : Int)) (((wr.alloc (.cells #[.int .i64 xa, .int .i64 xap, .int .i64 xb, .int .i64 xbp, .int .i64 xdl, .int .i64 xcp] 73)).alloc ob).alloc ob)) :=
                ⟨k + 1, by omega, rfl, by rw [AS.out, HC.out]; simp [okPorts, hx, hy], BB.out⟩
              clear hx hy AS AB HA HC HP V BB
              go_wp2_with fail
              refine (port_any2 ns cs An _ cn cc xa xap _ hl (HAn.out.alloc _) _ HX.out ob HOB.out).mono ?_
              rintro r w' ⟨rfl, rfl⟩
              go_wp2_with fail
              refine (port_any2 ns cs An _ cn cc xb xbp _ hl ((HAn.out.alloc _).alloc _) _ HY.out ob HOB.out).mono ?_
              rintro r w' ⟨rfl, rfl⟩
              go_wp2_with fail
              exact ⟨by simpa using R.out, by simp [intOf]; omega⟩
        · obtain rfl : k = cs.length := by omega
          rw [List.take_length] at HC
          have BW2 := Lib.hid (BW.out.trans (belC.mono (by omega)))
          clear BW D0 D1 HP belC
          cases hr : repeatsB ⟨ns, cs⟩ with
          | true =>
            have FIN := Lib.hid (validP8 (p := ⟨ns, cs⟩) V.out HA.out HC.out hr)
            have HR := Lib.hid hr
            clear hr V HA HC
            go_wp2_with fail
            refine (repeats_any ⟨ns, cs⟩ An Ac cn cc _ hl hl2 HW.out HPC.out).mono ?_
            rintro r w' ⟨rfl, bel3⟩
            rw [HR.out]
            go_wp2_with fail
            go_ret
            exact ⟨by rw [FIN.out]; rfl, BW2.out.trans (bel3.mono (by omega))⟩
          | false =>
            have HR := Lib.hid hr
            clear hr
            go_wp2_with fail
            refine (repeats_any ⟨ns, cs⟩ An Ac cn cc _ hl hl2 HW.out HPC.out).mono ?_
            rintro r w' ⟨rfl, bel3⟩
            rw [HR.out]
            have f0 : w'.cell? ⟨w.heap.size, 0, none⟩ = some (.slice An ns.length cn) := by rw [bel3.cell (by exact bwr)]; exact e0
            have f1 : w'.cell? ⟨w.heap.size, 1, none⟩ = some (.slice Ac cs.length cc) := by rw [bel3.cell (by exact bwr)]; exact e1
            have HP3 := Lib.hid (HPC.out.below (Nat.le_refl _) bel3)
            have BW3 := Lib.hid (BW2.out.trans (bel3.mono (by omega)))
            have bw3 : w.heap.size < w'.heap.size := by have := bel3.size; omega
            have F0 := Lib.hid f0
            have F1 := Lib.hid f1
            clear bel3 HPC BW2 e0 e1 bwr bc
            generalize w' = w3 at *
            go_wp2_with fail
            go_loopw [61] (fun i wr => RelAll (fun x : Cb => decide (x.a ≠ x.b)) cs w3.heap.size w3 i wr) (fun i _ => cs.length - (intOf i).toNat)
            case atStart => exact ⟨0, Nat.zero_le _, rfl, rfl, Below.refl _ _⟩
            case round =>
              clear f0 f1
              obtain ⟨k, hk, rfl, hall, belD⟩ := hrel
              have bd := belD.size
              have HD := Lib.hid hall
              clear hall
              have HPD := Lib.hid (HP3.out.below (Nat.le_refl _) belD)
              by_cases hkr : k < cs.length
              · obtain ⟨bb, off, ha, hbb, hmem, c0, c1, c2, c3, c4, c5⟩ := cable_at HPD.out.2 k hkr
                have AS := Lib.hid (all_snoc (fun x : Cb => decide (x.a ≠ x.b)) cb0 cs k hkr)
                have AB := Lib.hid (all_bad (fun x : Cb => decide (x.a ≠ x.b)) cb0 cs k hkr)
                generalize cs.getD k cb0 = x at *
                subst ha
                obtain ⟨xa, xap, xb, xbp, xdl, xcp⟩ := x
                simp only at c0 c1 c2 c3 c4 c5
                have BB : Hid (Below w3.heap.size w3 (wr.alloc (.cells #[.int .i64 xa, .int .i64 xap, .int .i64 xb, .int .i64 xbp, .int .i64 xdl, .int .i64 xcp] 73))) := belD.alloc bd _
                by_cases hab : xa = xb
                · have FIN := Lib.hid (validP12 (p := ⟨ns, cs⟩) V.out HA.out HC.out HR.out (AB.out (by simp [hab])))
                  have hq : (xa == xb) = true := by rw [hab]; simp
                  clear hmem AS AB HA HC HR V HD HPD hab
                  go_wp2_with fail
                  go_ret
                  exact ⟨by rw [FIN.out]; rfl, BW3.out.trans (BB.out.mono (by omega))⟩
                · have R : Hid (RelAll (fun x : Cb => decide (x.a ≠ x.b)) cs w3.heap.size w3 (.int .i64 ((k + 1 : Nat) : Int)) (wr.alloc (.cells #[.int .i64 xa, .int .i64 xap, .int .i64 xb, .int .i64 xbp, .int .i64 xdl, .int .i64 xcp] 73))) :=
                    ⟨k + 1, by omega, rfl, by rw [AS.out, HD.out]; simp [hab], BB.out⟩
                  have hq : (xa == xb) = false := by rw [beq_eq_false_iff_ne]; exact hab
                  clear hmem AS AB HA HC HR V HD HPD hab BB
                  go_wp2_with fail
                  exact ⟨by simpa using R.out, by simp [intOf]; omega⟩
              · obtain rfl : k = cs.length := by omega
                rw [List.take_length] at HD
                have g0 : wr.cell? ⟨w.heap.size, 0, none⟩ = some (.slice An ns.length cn) := by rw [belD.cell (by exact bw3)]; exact F0.out
                have g1 : wr.cell? ⟨w.heap.size, 1, none⟩ = some (.slice Ac cs.length cc) := by rw [belD.cell (by exact bw3)]; exact F1.out
                have BW4 := Lib.hid (BW3.out.trans (belD.mono (by omega)))
                have bw4 : w.heap.size < wr.heap.size := by omega
                clear BW3 F0 F1 HP3 belD
                obtain ⟨w4, rfl⟩ : ∃ w4 : World, w4 = wr := ⟨_, rfl⟩
                go_wp2_with fail
                go_loopw [74] (fun i wr => RelAll okForm cs w4.heap.size w4 i wr) (fun i _ => cs.length - (intOf i).toNat)
                case atStart => exact ⟨0, Nat.zero_le _, rfl, rfl, Below.refl _ _⟩
                case round =>
                  clear g0 g1
                  obtain ⟨k, hk, rfl, hall, belF⟩ := hrel
                  have bf := belF.size
                  have HF := Lib.hid hall
                  clear hall
                  have HPF := Lib.hid (HPD.out.below (Nat.le_refl _) belF)
                  by_cases hkr : k < cs.length
                  · obtain ⟨bb, off, ha, hbb, hmem, c0, c1, c2, c3, c4, c5⟩ := cable_at HPF.out.2 k hkr
                    have AS := Lib.hid (all_snoc okForm cb0 cs k hkr)
                    have AB := Lib.hid (all_bad okForm cb0 cs k hkr)
                    generalize cs.getD k cb0 = x at *
                    subst ha
                    obtain ⟨xa, xap, xb, xbp, xdl, xcp⟩ := x
                    simp only at c0 c1 c2 c3 c4 c5
                    have BB : Hid (Below w4.heap.size w4 (wr.alloc (.cells #[.int .i64 xa, .int .i64 xap, .int .i64 xb, .int .i64 xbp, .int .i64 xdl, .int .i64 xcp] 73))) := belF.alloc bf _
                    by_cases hok : 1 ≤ xdl ∧ xdl ≤ 100 ∧ 1 ≤ xcp ∧ xcp ≤ 1000
                    · have R : Hid (RelAll okForm cs w4.heap.size w4 (.int .i64 ((k + 1 : Nat) : Int)) (wr.alloc (.cells #[.int .i64 xa, .int .i64 xap, .int .i64 xb, .int .i64 xbp, .int .i64 xdl, .int .i64 xcp] 73))) :=
                        ⟨k + 1, by omega, rfl, by rw [AS.out, HF.out]; simp [okForm, hok], BB.out⟩
                      obtain ⟨q1, q2, q3, q4⟩ := hok
                      clear hmem AS AB HA HC HR HD V HF HPF HPD BB
                      go_wp2_with fail
                      exact ⟨by simpa using R.out, by simp [intOf]; omega⟩
                    · have FIN := Lib.hid (validP3 (p := ⟨ns, cs⟩) V.out HA.out HC.out HR.out HD.out (AB.out (by
                        simp only [okForm]; rw [Bool.eq_false_iff]; intro h; simp at h; exact hok ⟨h.1.1.1, h.1.1.2, h.1.2, h.2⟩)))
                      clear hmem AS AB HA HC HR HD V HF HPF HPD
                      rcases (by omega : xdl < 1 ∨ (1 ≤ xdl ∧ 100 < xdl) ∨ (1 ≤ xdl ∧ xdl ≤ 100 ∧ xcp < 1) ∨ (1 ≤ xdl ∧ xdl ≤ 100 ∧ 1 ≤ xcp ∧ 1000 < xcp)) with q1 | ⟨q1, q2⟩ | ⟨q1, q2, q3⟩ | ⟨q1, q2, q3, q4⟩ <;> clear hok
                      all_goals
                        go_wp2_with fail
                        go_ret
                        exact ⟨by rw [FIN.out]; rfl, BW4.out.trans (BB.out.mono (by omega))⟩
                  · obtain rfl : k = cs.length := by omega
                    rw [List.take_length] at HF
                    have FIN := Lib.hid (validP0 (p := ⟨ns, cs⟩) V.out HA.out HC.out HR.out HD.out HF.out)
                    have BW5 := Lib.hid (BW4.out.trans (belF.mono (by omega)))
                    clear HA HC HR HD V HF HPF HPD
                    go_wp2_with fail
                    go_ret
                    exact ⟨by rw [FIN.out]; rfl, BW5.out⟩
end Go.Proofs.Ytljojgpjgjfddaa
