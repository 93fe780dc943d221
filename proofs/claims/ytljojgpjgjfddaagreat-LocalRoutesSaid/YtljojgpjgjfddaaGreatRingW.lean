/- The contract of the law's own ring. -/
import Derived.Test.YtljojgpjgjfddaaGreatRing
import Derived.Test.YtljojgpjgjfddaaGreatCVisit
import Derived.Laws.Runes
import Derived.Laws.Cover4
import Derived.Deep.Cut
import Derived.Deep.CutRange
namespace Go.Proofs.YtljojgpjgjfddaaGreat
open Go.RowKit Go.Maps
set_option linter.unusedVariables false
set_option linter.unusedSimpArgs false

theorem infoNode : (Tryz.prog.info? 109).map (fun i => (i.zero, i.size, i.bytes)) = some (some (.agg #[.string ⟨#[]⟩, .bool false, .int .i64 0]), 3, 32) := by kernel_rfl
theorem infoCable : (Tryz.prog.info? 85).map (fun i => (i.zero, i.size, i.bytes)) = some (some (.agg #[.int .i64 0, .int .i64 0, .int .i64 0, .int .i64 0, .int .i64 0, .int .i64 0]), 6, 48) := by kernel_rfl
theorem infoArr2I : (Tryz.prog.info? 91).map (fun i => (i.zero, i.size, i.bytes)) = some (some (.agg #[.slice none 0 0, .slice none 0 0]), 2, 48) := by kernel_rfl

/-- The six blocks of the call: three results, three variables. -/
def RB (w : World) (g : Nat) (v1 v2 v3 v4 : Value) : Prop :=
  Blk w g 25 #[.slice none 0 0, .slice none 0 0] ∧ Blk w (g + 1) 30 #[.slice none 0 0] ∧ Blk w (g + 1 + 1) 36 #[.slice none 0 0] ∧
    Blk w (g + 1 + 1 + 1) 25 #[v1, v2] ∧ Blk w (g + 1 + 1 + 1 + 1) 30 #[v3] ∧ Blk w (g + 1 + 1 + 1 + 1 + 1) 36 #[v4]
section
variable {w w' : World} {g : Nat} {v1 v2 v3 v4 : Value}
theorem RB.alloc (h : RB w g v1 v2 v3 v4) (o : Obj) : RB (w.alloc o) g v1 v2 v3 v4 := by
  obtain ⟨h1, h2, h3, h4, h5, h6⟩ := h
  exact ⟨h1.alloc o, h2.alloc o, h3.alloc o, h4.alloc o, h5.alloc o, h6.alloc o⟩
theorem RB.grown (h : RB w g v1 v2 v3 v4) {row : Option Nat} (hg : w.grownBy w' row) (hr : ∀ q, row = some q → g + 6 ≤ q) : RB w' g v1 v2 v3 v4 := by
  obtain ⟨h1, h2, h3, h4, h5, h6⟩ := h
  refine ⟨h1.grown hg ?_, h2.grown hg ?_, h3.grown hg ?_, h4.grown hg ?_, h5.grown hg ?_, h6.grown hg ?_⟩
  all_goals
    intro e
    have := hr _ e.symm
    omega
theorem RB.drew (h : RB w g v1 v2 v3 v4) : RB w.drew g v1 v2 v3 v4 := h
theorem RB.set1 (h : RB w g v1 v2 v3 v4) (u : Value) : RB (w.setCell ⟨g + 1 + 1 + 1, 0, none⟩ u) g u v2 v3 v4 := by
  obtain ⟨h1, h2, h3, h4, h5, h6⟩ := h
  exact ⟨h1.far (by show g ≠ g + 1 + 1 + 1; omega) u, h2.far (by show g + 1 ≠ g + 1 + 1 + 1; omega) u, h3.far (by show g + 1 + 1 ≠ g + 1 + 1 + 1; omega) u, h4.set_ 0 u, h5.far (by show g + 1 + 1 + 1 + 1 ≠ g + 1 + 1 + 1; omega) u, h6.far (by show g + 1 + 1 + 1 + 1 + 1 ≠ g + 1 + 1 + 1; omega) u⟩
theorem RB.set2 (h : RB w g v1 v2 v3 v4) (u : Value) : RB (w.setCell ⟨g + 1 + 1 + 1, 1, none⟩ u) g v1 u v3 v4 := by
  obtain ⟨h1, h2, h3, h4, h5, h6⟩ := h
  exact ⟨h1.far (by show g ≠ g + 1 + 1 + 1; omega) u, h2.far (by show g + 1 ≠ g + 1 + 1 + 1; omega) u, h3.far (by show g + 1 + 1 ≠ g + 1 + 1 + 1; omega) u, h4.set_ 1 u, h5.far (by show g + 1 + 1 + 1 + 1 ≠ g + 1 + 1 + 1; omega) u, h6.far (by show g + 1 + 1 + 1 + 1 + 1 ≠ g + 1 + 1 + 1; omega) u⟩
theorem RB.set3 (h : RB w g v1 v2 v3 v4) (u : Value) : RB (w.setCell ⟨g + 1 + 1 + 1 + 1, 0, none⟩ u) g v1 v2 u v4 := by
  obtain ⟨h1, h2, h3, h4, h5, h6⟩ := h
  exact ⟨h1.far (by show g ≠ g + 1 + 1 + 1 + 1; omega) u, h2.far (by show g + 1 ≠ g + 1 + 1 + 1 + 1; omega) u, h3.far (by show g + 1 + 1 ≠ g + 1 + 1 + 1 + 1; omega) u, h4.far (by show g + 1 + 1 + 1 ≠ g + 1 + 1 + 1 + 1; omega) u, h5.set_ 0 u, h6.far (by show g + 1 + 1 + 1 + 1 + 1 ≠ g + 1 + 1 + 1 + 1; omega) u⟩
theorem RB.set4 (h : RB w g v1 v2 v3 v4) (u : Value) : RB (w.setCell ⟨g + 1 + 1 + 1 + 1 + 1, 0, none⟩ u) g v1 v2 v3 u := by
  obtain ⟨h1, h2, h3, h4, h5, h6⟩ := h
  exact ⟨h1.far (by show g ≠ g + 1 + 1 + 1 + 1 + 1; omega) u, h2.far (by show g + 1 ≠ g + 1 + 1 + 1 + 1 + 1; omega) u, h3.far (by show g + 1 + 1 ≠ g + 1 + 1 + 1 + 1 + 1; omega) u, h4.far (by show g + 1 + 1 + 1 ≠ g + 1 + 1 + 1 + 1 + 1; omega) u, h5.far (by show g + 1 + 1 + 1 + 1 ≠ g + 1 + 1 + 1 + 1 + 1; omega) u, h6.set_ 0 u⟩
theorem Slots.store {base a n cap : Nat} {e : TypeId} {size : Nat} {xs : List Value} {S : List Slot} (h : Slots w base (⟨.slice (some ⟨a, 0, none⟩) n cap, e, size, n, xs⟩ :: S)) (j : Nat) (hj : j < n * size) (u : Value) :
    Slots (w.setCell ⟨a, j, none⟩ u) base (⟨.slice (some ⟨a, 0, none⟩) n cap, e, size, n, xs.set j u⟩ :: S) := by
  have h0 := World.ownsRow.stored h.head j u
  have := h.push (v' := .slice (some ⟨a, 0, none⟩) n cap) (n' := n) (xs' := xs.set j u) h0.1 h0.2 (.inl rfl)
  exact this
theorem Slots.fresh {base : Nat} {S : List Slot} (h : Slots w base S) (t : TypeId) (cs : Array Value) (n size : Nat) (hs : cs.size = n * size) (hb : base ≤ w.heap.size) (hn : n ≤ maxLen) :
    Slots (w.alloc (.cells cs t)) base (⟨.slice (some ⟨w.heap.size, 0, none⟩) n n, t, size, n, cs.toList⟩ :: S) := by
  have h1 := h.alloc (.cells cs t)
  refine ⟨fun s hs' => ?_, ?_⟩
  · rcases List.mem_cons.1 hs' with rfl | hs'
    · exact World.ownsRow_lit w cs n hb hn hs
    · exact h1.1 s hs'
  · rw [List.pairwise_cons]
    refine ⟨fun s hs' g hg hsg => ?_, h1.2⟩
    have h2 := ((h.1 s hs').lt g hsg).2
    simp [Value.ownBlock] at hg
    omega
end
theorem reads_new (w : World) (t : TypeId) (cs : Array Value) {n size : Nat} (h : cs.size = n * size) : Reads (w.alloc (.cells cs t)) (w.heap.size + 1) size (some ⟨w.heap.size, 0, none⟩) n cs.toList :=
  ⟨by simpa using h, fun _ => ⟨_, rfl, by simp, fun q u hu => World.news_of_block (cs := cs) (t := t) (fr := (0, 0)) (heap_alloc_new w _) q u hu⟩⟩
theorem reads_blk {w : World} {g : Nat} {t : TypeId} {cs : Array Value} {n size : Nat} (h : Blk w g t cs) (hs : cs.size = n * size) : Reads w (g + 1) size (some ⟨g, 0, none⟩) n cs.toList :=
  ⟨by simpa using hs, fun _ => ⟨_, rfl, by simp, fun q u hu => World.news_of_block (cs := cs) (t := t) (fr := (0, 0)) h q u hu⟩⟩
theorem perm7 {α : Type} (a b c d e f : α) (F : List α) : (a :: b :: c :: d :: e :: f :: F).Perm (f :: e :: d :: a :: (F ++ [b, c])) := by
  have h1 : (a :: b :: c :: d :: e :: f :: F).Perm (f :: a :: b :: c :: d :: e :: F) := List.perm_middle (l₁ := [a, b, c, d, e])
  have h2 : (a :: b :: c :: d :: e :: F).Perm (e :: a :: b :: c :: d :: F) := List.perm_middle (l₁ := [a, b, c, d])
  have h3 : (a :: b :: c :: d :: F).Perm (d :: a :: b :: c :: F) := List.perm_middle (l₁ := [a, b, c])
  have h4 : (b :: c :: F).Perm (F ++ [b, c]) := List.perm_append_comm (l₁ := [b, c])
  exact h1.trans ((h2.trans ((h3.trans ((h4.cons a).cons d)).cons e)).cons f)
theorem Slots.sub {w : World} {base : Nat} {S T : List Slot} (h : Slots w base S) (s : T.Sublist S) : Slots w base T := ⟨fun x hx => h.1 x (s.subset hx), h.2.sublist s⟩
theorem own_shape {w : World} {base : Nat} {e : TypeId} {size n : Nat} {v : Value} {xs : List Value} (h : w.ownsRow base e size v n xs) : ∃ a c, v = .slice a n c := by
  rcases h.2 with ⟨rfl, rfl⟩ | ⟨g', cap, cur, rfl, _⟩
  · exact ⟨_, _, rfl⟩
  · exact ⟨_, _, rfl⟩
def nodesK (k : Nat) : List Nd := (List.range k).map ringNd
def cabsK (n k : Nat) : List Cb := (List.range k).map (ringCb n)
def lvsK (n k : Nat) : List Int := (List.range k).map (ringLv n)
def sN (k : Nat) (v : Value) : Slot := ⟨v, 109, 3, k, (nodesK k).flatMap cN⟩
def sC (n k : Nat) (v : Value) : Slot := ⟨v, 85, 6, k, (cabsK n k).flatMap cC⟩
def sL (n k : Nat) (v : Value) : Slot := ⟨v, 3, 1, k, (lvsK n k).flatMap cI⟩
def sT (k : Nat) (v : Value) (L : List Fin2) : Slot := ⟨v, 91, 2, k, L.flatMap cF⟩
def RelR (n g : Nat) (w : World) (i : Value) (wr : World) : Prop :=
  ∃ (k : Nat) (v1 v2 v3 v4 : Value) (L : List Fin2), k ≤ n ∧ i = .int .i64 k ∧ RB wr g v1 v2 v3 v4 ∧
    Slots wr (g + 6) (sN k v1 :: sC n k v2 :: sL n k v3 :: sT k v4 L :: L.flatMap (slF 3 n)) ∧ L.map (fun q => q.2.2) = (List.range k).map (ringRow n) ∧ Below g w wr
def rowK (i d : Nat) : List Int := (List.range d).map (ringC i)
def sA (a : Nat) (r0 r1 : Value) : Slot := ⟨.slice (some ⟨a, 0, none⟩) 1 1, 91, 2, 1, [r0, r1]⟩
def sR (i d : Nat) (r : Value) : Slot := ⟨r, 3, 1, d, (rowK i d).flatMap cI⟩
theorem sR_own {w : World} {base i d : Nat} {r : Value} {S : List Slot} (h : Slots w base (sR i d r :: S)) : w.ownsRow base 3 1 r d ((rowK i d).flatMap cI) := h.head
def RelR2 (n g k a : Nat) (v1 v2 v3 v4 : Value) (S : List Slot) (w : World) (i : Value) (wr : World) : Prop :=
  ∃ (d : Nat) (r0 r1 : Value), d ≤ n ∧ i = .int .i64 d ∧ RB wr g v1 v2 v3 v4 ∧ Slots wr (g + 6) (sR k d r0 :: sR k d r1 :: sA a r0 r1 :: S) ∧ Below g w wr
def RingPost (n : Nat) (w : World) (e : Ending) (w' : World) : Prop :=
  ∃ An cn Ac cc Al cl At ct, e = .returned (.tuple #[.agg #[.slice An n cn, .slice Ac n cc], .agg #[.slice Al n cl], .agg #[.slice At n ct]]) ∧
    IsPlan w' An Ac (ringP n) ∧ IsRec 1 cI 0 w' Al n (ringL n) ∧ IsTab w' At n (ringT n) ∧ Below w.heap.size w w'

theorem blk_new' (w : World) (t : TypeId) (cs : Array Value) {g : Nat} (h : w.heap.size = g) : Blk (w.alloc (.cells cs t)) g t cs := by subst h; exact Blk.new _ _ _
theorem rb_new (w : World) : RB ((((((w.alloc (.cells #[.slice none 0 0, .slice none 0 0] 25)).alloc (.cells #[.slice none 0 0] 30)).alloc (.cells #[.slice none 0 0] 36)).alloc (.cells #[.slice none 0 0, .slice none 0 0] 25)).alloc (.cells #[.slice none 0 0] 30)).alloc (.cells #[.slice none 0 0] 36)) w.heap.size (.slice none 0 0) (.slice none 0 0) (.slice none 0 0) (.slice none 0 0) :=
  ⟨((((((Blk.new w _ _).alloc _).alloc _).alloc _).alloc _).alloc _), (((((blk_new' _ _ _ (by simp)).alloc _).alloc _).alloc _).alloc _), ((((blk_new' _ _ _ (by simp)).alloc _).alloc _).alloc _), (((blk_new' _ _ _ (by simp)).alloc _).alloc _), ((blk_new' _ _ _ (by simp)).alloc _), (blk_new' _ _ _ (by simp))⟩
def RingEnd (n : Nat) (w wx : World) (A1 : Option Addr) (C1 : Nat) (A2 : Option Addr) (C2 : Nat) (A3 : Option Addr) (C3 : Nat) (A4 : Option Addr) (C4 : Nat) (L : List Fin2) : Prop :=
  wx.cell? ⟨w.heap.size, 0, none⟩ = some (.slice A1 n C1) ∧ wx.cell? ⟨w.heap.size, 1, none⟩ = some (.slice A2 n C2) ∧ wx.cell? ⟨w.heap.size + 1, 0, none⟩ = some (.slice A3 n C3) ∧ wx.cell? ⟨w.heap.size + 1 + 1, 0, none⟩ = some (.slice A4 n C4) ∧
    Slots wx (w.heap.size + 6) (sN n (.slice A1 n C1) :: sC n n (.slice A2 n C2) :: sL n n (.slice A3 n C3) :: sT n (.slice A4 n C4) L :: L.flatMap (slF 3 n)) ∧ Below w.heap.size w wx
theorem Slots.setLow {w : World} {base : Nat} {S : List Slot} (h : Slots w base S) {p : Addr} (hp : p.block < base) (u : Value) : Slots (w.setCell p u) base S :=
  h.low (only_setCell (only_refl w (some p.block)) (.inl rfl) u) hp

end Go.Proofs.YtljojgpjgjfddaaGreat
