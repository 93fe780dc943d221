/- The contract of the law's own ring. -/
import Derived.Test.YtlhblaemoejefaaRing
import Derived.Test.YtlhblaemoejefaaCVisit
import Derived.Laws.Runes
import Derived.Laws.Cover4
import Derived.Deep.Cut
import Derived.Deep.CutRange
namespace Go.Proofs.Ytlhblaemoejefaa
open Go.RowKit Go.Maps
set_option linter.unusedVariables false
set_option linter.unusedSimpArgs false

theorem infoNode : (Try.prog.info? 93).map (fun i => (i.zero, i.size, i.bytes)) = some (some (.agg #[.string ⟨#[]⟩, .bool false, .int .i64 0]), 3, 32) := by kernel_rfl
theorem infoCable : (Try.prog.info? 47).map (fun i => (i.zero, i.size, i.bytes)) = some (some (.agg #[.int .i64 0, .int .i64 0, .int .i64 0, .int .i64 0, .int .i64 0, .int .i64 0]), 6, 48) := by kernel_rfl
theorem infoArr2I : (Try.prog.info? 97).map (fun i => (i.zero, i.size, i.bytes)) = some (some (.agg #[.slice none 0 0, .slice none 0 0]), 2, 48) := by kernel_rfl

/-- The six blocks of the call: three results, three variables. -/
def RB (w : World) (g : Nat) (v1 v2 v3 v4 : Value) : Prop :=
  Blk w g 40 #[.slice none 0 0, .slice none 0 0] ∧ Blk w (g + 1) 51 #[.slice none 0 0] ∧ Blk w (g + 1 + 1) 54 #[.slice none 0 0] ∧
    Blk w (g + 1 + 1 + 1) 40 #[v1, v2] ∧ Blk w (g + 1 + 1 + 1 + 1) 51 #[v3] ∧ Blk w (g + 1 + 1 + 1 + 1 + 1) 54 #[v4]
section
variable {w w' : World} {g : Nat} {v1 v2 v3 v4 : Value}
theorem RB.alloc (h : RB w g v1 v2 v3 v4) (o : Obj) : RB (w.alloc o) g v1 v2 v3 v4 := by
  obtain ⟨h1, h2, h3, h4, h5, h6⟩ := h
  exact ⟨h1.alloc o, h2.alloc o, h3.alloc o, h4.alloc o, h5.alloc o, h6.alloc o⟩
theorem RB.grown (h : RB w g v1 v2 v3 v4) {row : Option Nat} (hg : w.grownBy w' row) (hr : ∀ q, row = some q → g + 6 ≤ q) : RB w' g v1 v2 v3 v4 := by
  obtain ⟨h1, h2, h3, h4, h5, h6⟩ := h
  refine ⟨h1.grown hg ?_, h2.grown hg ?_, h3.grown hg ?_, h4.grown hg ?_, h5.grown hg ?_, h6.grown hg ?_⟩
  all_goals
    intro e
    have := hr _ e.symm
    omega
theorem RB.drew (h : RB w g v1 v2 v3 v4) : RB w.drew g v1 v2 v3 v4 := h
theorem RB.set1 (h : RB w g v1 v2 v3 v4) (u : Value) : RB (w.setCell ⟨g + 1 + 1 + 1, 0, none⟩ u) g u v2 v3 v4 := by
  obtain ⟨h1, h2, h3, h4, h5, h6⟩ := h
  exact ⟨h1.far (by show g ≠ g + 1 + 1 + 1; omega) u, h2.far (by show g + 1 ≠ g + 1 + 1 + 1; omega) u, h3.far (by show g + 1 + 1 ≠ g + 1 + 1 + 1; omega) u, h4.set_ 0 u, h5.far (by show g + 1 + 1 + 1 + 1 ≠ g + 1 + 1 + 1; omega) u, h6.far (by show g + 1 + 1 + 1 + 1 + 1 ≠ g + 1 + 1 + 1; omega) u⟩
theorem RB.set2 (h : RB w g v1 v2 v3 v4) (u : Value) : RB (w.setCell ⟨g + 1 + 1 + 1, 1, none⟩ u) g v1 u v3 v4 := by
  obtain ⟨h1, h2, h3, h4, h5, h6⟩ := h
  exact ⟨h1.far (by show g ≠ g + 1 + 1 + 1; omega) u, h2.far (by show g + 1 ≠ g + 1 + 1 + 1; omega) u, h3.far (by show g + 1 + 1 ≠ g + 1 + 1 + 1; omega) u, h4.set_ 1 u, h5.far (by show g + 1 + 1 + 1 + 1 ≠ g + 1 + 1 + 1; omega) u, h6.far (by show g + 1 + 1 + 1 + 1 + 1 ≠ g + 1 + 1 + 1; omega) u⟩
theorem RB.set3 (h : RB w g v1 v2 v3 v4) (u : Value) : RB (w.setCell ⟨g + 1 + 1 + 1 + 1, 0, none⟩ u) g v1 v2 u v4 := by
  obtain ⟨h1, h2, h3, h4, h5, h6⟩ := h
  exact ⟨h1.far (by show g ≠ g + 1 + 1 + 1 + 1; omega) u, h2.far (by show g + 1 ≠ g + 1 + 1 + 1 + 1; omega) u, h3.far (by show g + 1 + 1 ≠ g + 1 + 1 + 1 + 1; omega) u, h4.far (by show g + 1 + 1 + 1 ≠ g + 1 + 1 + 1 + 1; omega) u, h5.set_ 0 u, h6.far (by show g + 1 + 1 + 1 + 1 + 1 ≠ g + 1 + 1 + 1 + 1; omega) u⟩
theorem RB.set4 (h : RB w g v1 v2 v3 v4) (u : Value) : RB (w.setCell ⟨g + 1 + 1 + 1 + 1 + 1, 0, none⟩ u) g v1 v2 v3 u := by
  obtain ⟨h1, h2, h3, h4, h5, h6⟩ := h
  exact ⟨h1.far (by show g ≠ g + 1 + 1 + 1 + 1 + 1; omega) u, h2.far (by show g + 1 ≠ g + 1 + 1 + 1 + 1 + 1; omega) u, h3.far (by show g + 1 + 1 ≠ g + 1 + 1 + 1 + 1 + 1; omega) u, h4.far (by show g + 1 + 1 + 1 ≠ g + 1 + 1 + 1 + 1 + 1; omega) u, h5.far (by show g + 1 + 1 + 1 + 1 ≠ g + 1 + 1 + 1 + 1 + 1; omega) u, h6.set_ 0 u⟩
theorem Slots.store {base a n cap : Nat} {e : TypeId} {size : Nat} {xs : List Value} {S : List Slot} (h : Slots w base (⟨.slice (some ⟨a, 0, none⟩) n cap, e, size, n, xs⟩ :: S)) (j : Nat) (hj : j < n * size) (u : Value) :
    Slots (w.setCell ⟨a, j, none⟩ u) base (⟨.slice (some ⟨a, 0, none⟩) n cap, e, size, n, xs.set j u⟩ :: S) := by
  have h0 := World.ownsRow.stored h.head j u
  have := h.push (v' := .slice (some ⟨a, 0, none⟩) n cap) (n' := n) (xs' := xs.set j u) h0.1 h0.2 (.inl rfl)
  exact this
theorem Slots.fresh {base : Nat} {S : List Slot} (h : Slots w base S) (t : TypeId) (cs : Array Value) (n size : Nat) (hs : cs.size = n * size) (hb : base ≤ w.heap.size) (hn : n ≤ maxLen) :
    Slots (w.alloc (.cells cs t)) base (⟨.slice (some ⟨w.heap.size, 0, none⟩) n n, t, size, n, cs.toList⟩ :: S) := by
  have h1 := h.alloc (.cells cs t)
  refine ⟨fun s hs' => ?_, ?_⟩
  · rcases List.mem_cons.1 hs' with rfl | hs'
    · exact World.ownsRow_lit w cs n hb hn hs
    · exact h1.1 s hs'
  · rw [List.pairwise_cons]
    refine ⟨fun s hs' g hg hsg => ?_, h1.2⟩
    have h2 := ((h.1 s hs').lt g hsg).2
    simp [Value.ownBlock] at hg
    omega
end
theorem reads_new (w : World) (t : TypeId) (cs : Array Value) {n size : Nat} (h : cs.size = n * size) : Reads (w.alloc (.cells cs t)) (w.heap.size + 1) size (some ⟨w.heap.size, 0, none⟩) n cs.toList :=
  ⟨by simpa using h, fun _ => ⟨_, rfl, by simp, fun q u hu => World.news_of_block (cs := cs) (t := t) (fr := (0, 0)) (heap_alloc_new w _) q u hu⟩⟩
theorem reads_blk {w : World} {g : Nat} {t : TypeId} {cs : Array Value} {n size : Nat} (h : Blk w g t cs) (hs : cs.size = n * size) : Reads w (g + 1) size (some ⟨g, 0, none⟩) n cs.toList :=
  ⟨by simpa using hs, fun _ => ⟨_, rfl, by simp, fun q u hu => World.news_of_block (cs := cs) (t := t) (fr := (0, 0)) h q u hu⟩⟩
theorem perm7 {α : Type} (a b c d e f : α) (F : List α) : (a :: b :: c :: d :: e :: f :: F).Perm (f :: e :: d :: a :: (F ++ [b, c])) := by
  have h1 : (a :: b :: c :: d :: e :: f :: F).Perm (f :: a :: b :: c :: d :: e :: F) := List.perm_middle (l₁ := [a, b, c, d, e])
  have h2 : (a :: b :: c :: d :: e :: F).Perm (e :: a :: b :: c :: d :: F) := List.perm_middle (l₁ := [a, b, c, d])
  have h3 : (a :: b :: c :: d :: F).Perm (d :: a :: b :: c :: F) := List.perm_middle (l₁ := [a, b, c])
  have h4 : (b :: c :: F).Perm (F ++ [b, c]) := List.perm_append_comm (l₁ := [b, c])
  exact h1.trans ((h2.trans ((h3.trans ((h4.cons a).cons d)).cons e)).cons f)
theorem Slots.sub {w : World} {base : Nat} {S T : List Slot} (h : Slots w base S) (s : T.Sublist S) : Slots w base T := ⟨fun x hx => h.1 x (s.subset hx), h.2.sublist s⟩
theorem own_shape {w : World} {base : Nat} {e : TypeId} {size n : Nat} {v : Value} {xs : List Value} (h : w.ownsRow base e size v n xs) : ∃ a c, v = .slice a n c := by
  rcases h.2 with ⟨rfl, rfl⟩ | ⟨g', cap, cur, rfl, _⟩
  · exact ⟨_, _, rfl⟩
  · exact ⟨_, _, rfl⟩
def nodesK (k : Nat) : List Nd := (List.range k).map ringNd
def cabsK (n k : Nat) : List Cb := (List.range k).map (ringCb n)
def lvsK (n k : Nat) : List Int := (List.range k).map (ringLv n)
def sN (k : Nat) (v : Value) : Slot := ⟨v, 93, 3, k, (nodesK k).flatMap cN⟩
def sC (n k : Nat) (v : Value) : Slot := ⟨v, 47, 6, k, (cabsK n k).flatMap cC⟩
def sL (n k : Nat) (v : Value) : Slot := ⟨v, 3, 1, k, (lvsK n k).flatMap cI⟩
def sT (k : Nat) (v : Value) (L : List Fin2) : Slot := ⟨v, 97, 2, k, L.flatMap cF⟩
def RelR (n g : Nat) (w : World) (i : Value) (wr : World) : Prop :=
  ∃ (k : Nat) (v1 v2 v3 v4 : Value) (L : List Fin2), k ≤ n ∧ i = .int .i64 k ∧ RB wr g v1 v2 v3 v4 ∧
    Slots wr (g + 6) (sN k v1 :: sC n k v2 :: sL n k v3 :: sT k v4 L :: L.flatMap (slF 3 n)) ∧ L.map (fun q => q.2.2) = (List.range k).map (ringRow n) ∧ Below g w wr
def rowK (i d : Nat) : List Int := (List.range d).map (ringC i)
def sA (a : Nat) (r0 r1 : Value) : Slot := ⟨.slice (some ⟨a, 0, none⟩) 1 1, 97, 2, 1, [r0, r1]⟩
def sR (i d : Nat) (r : Value) : Slot := ⟨r, 3, 1, d, (rowK i d).flatMap cI⟩
theorem sR_own {w : World} {base i d : Nat} {r : Value} {S : List Slot} (h : Slots w base (sR i d r :: S)) : w.ownsRow base 3 1 r d ((rowK i d).flatMap cI) := h.head
def RelR2 (n g k a : Nat) (v1 v2 v3 v4 : Value) (S : List Slot) (w : World) (i : Value) (wr : World) : Prop :=
  ∃ (d : Nat) (r0 r1 : Value), d ≤ n ∧ i = .int .i64 d ∧ RB wr g v1 v2 v3 v4 ∧ Slots wr (g + 6) (sR k d r0 :: sR k d r1 :: sA a r0 r1 :: S) ∧ Below g w wr
def RingPost (n : Nat) (w : World) (e : Ending) (w' : World) : Prop :=
  ∃ An cn Ac cc Al cl At ct, e = .returned (.tuple #[.agg #[.slice An n cn, .slice Ac n cc], .agg #[.slice Al n cl], .agg #[.slice At n ct]]) ∧
    IsPlan w' An Ac (ringP n) ∧ IsRec 1 cI 0 w' Al n (ringL n) ∧ IsTab w' At n (ringT n) ∧ Below w.heap.size w w'

theorem blk_new' (w : World) (t : TypeId) (cs : Array Value) {g : Nat} (h : w.heap.size = g) : Blk (w.alloc (.cells cs t)) g t cs := by subst h; exact Blk.new _ _ _
theorem rb_new (w : World) : RB ((((((w.alloc (.cells #[.slice none 0 0, .slice none 0 0] 40)).alloc (.cells #[.slice none 0 0] 51)).alloc (.cells #[.slice none 0 0] 54)).alloc (.cells #[.slice none 0 0, .slice none 0 0] 40)).alloc (.cells #[.slice none 0 0] 51)).alloc (.cells #[.slice none 0 0] 54)) w.heap.size (.slice none 0 0) (.slice none 0 0) (.slice none 0 0) (.slice none 0 0) :=
  ⟨((((((Blk.new w _ _).alloc _).alloc _).alloc _).alloc _).alloc _), (((((blk_new' _ _ _ (by simp)).alloc _).alloc _).alloc _).alloc _), ((((blk_new' _ _ _ (by simp)).alloc _).alloc _).alloc _), (((blk_new' _ _ _ (by simp)).alloc _).alloc _), ((blk_new' _ _ _ (by simp)).alloc _), (blk_new' _ _ _ (by simp))⟩
def RingEnd (n : Nat) (w wx : World) (A1 : Option Addr) (C1 : Nat) (A2 : Option Addr) (C2 : Nat) (A3 : Option Addr) (C3 : Nat) (A4 : Option Addr) (C4 : Nat) (L : List Fin2) : Prop :=
  wx.cell? ⟨w.heap.size, 0, none⟩ = some (.slice A1 n C1) ∧ wx.cell? ⟨w.heap.size, 1, none⟩ = some (.slice A2 n C2) ∧ wx.cell? ⟨w.heap.size + 1, 0, none⟩ = some (.slice A3 n C3) ∧ wx.cell? ⟨w.heap.size + 1 + 1, 0, none⟩ = some (.slice A4 n C4) ∧
    Slots wx (w.heap.size + 6) (sN n (.slice A1 n C1) :: sC n n (.slice A2 n C2) :: sL n n (.slice A3 n C3) :: sT n (.slice A4 n C4) L :: L.flatMap (slF 3 n)) ∧ Below w.heap.size w wx
theorem Slots.setLow {w : World} {base : Nat} {S : List Slot} (h : Slots w base S) {p : Addr} (hp : p.block < base) (u : Value) : Slots (w.setCell p u) base S :=
  h.low (only_setCell (only_refl w (some p.block)) (.inl rfl) u) hp

set_option maxRecDepth 100000 in
set_option maxHeartbeats 8000000 in
theorem ring_any (n : Nat) (w : World) (hn1 : 1 ≤ n) (hn2 : n ≤ 26) : Calls Try.prog 24 #[.int .i64 n] w (RingPost n w) := by
  obtain ⟨iN, hiN, hzN, hzN1, hzN2⟩ := info_parts infoNode
  obtain ⟨iC, hiC, hzC, hzC1, hzC2⟩ := info_parts infoCable
  obtain ⟨iI, hiI, hzI, hzI1, hzI2⟩ := info_parts infoInt
  obtain ⟨iA, hiA, hzA, hzA1, hzA2⟩ := info_parts infoArr2I
  go_enter Try.func24, Try.ntmps24
  go_wp2_with fail
  go_loopw [13] (fun i wr => RelR n w.heap.size w i wr) (fun i _ => n - (RowKit.intOf i).toNat)
  case atStart =>
    refine ⟨0, .slice none 0 0, .slice none 0 0, .slice none 0 0, .slice none 0 0, [], Nat.zero_le _, rfl, rb_new w, ?_, rfl, ?_⟩
    · exact ((((Slots.nil _ _).empty _ _).empty _ _).empty _ _).empty _ _
    · exact ((((((Below.refl _ _).alloc (Nat.le_refl _) _).alloc (by simp) _).alloc (by simp; omega) _).alloc (by simp; omega) _).alloc (by simp; omega) _).alloc (by simp; omega) _
  case round =>
    obtain ⟨k, v1, v2, v3, v4, L, hk, rfl, rb, sl, hL, bel⟩ := hrel
    by_cases hkn : k < n
    · obtain ⟨rb1, rb2, rb3, rb4, rb5, rb6⟩ := rb
      have c1 : wr.cell? ⟨w.heap.size + 1 + 1 + 1, 0, none⟩ = some v1 := rb4.cell 0
      have f1 := rb4.frozen 0
      have RB0 : Hid (RB wr w.heap.size v1 v2 v3 v4) := ⟨rb1, rb2, rb3, rb4, rb5, rb6⟩
      have SL := Lib.hid sl
      have BE := Lib.hid bel
      have HL := Lib.hid hL
      have ow1 : wr.ownsRow (w.heap.size + 6) 93 3 v1 k ((nodesK k).flatMap cN) := sl.head
      have OW1 := Lib.hid ow1
      have gs := rb6.lt
      clear rb1 rb2 rb3 rb4 rb5 rb6 sl bel hL ow1
      have hw1 : IntKind.i64.wrap (97 + (k : Int)) = 97 + (k : Int) := IntWalk.i64_in _ (by omega)
      have hw2 : IntKind.i32.wrap (97 + (k : Int)) = 97 + (k : Int) := IntWalk.i32_in _ (by omega)
      have hcv : ∀ w' : World, (convert 21 9 (.int .i32 (97 + (k : Int)))).run Try.prog w' = .ok (.string (Go.Utf8.encode (97 + (k : Int)))) w' := fun w' => run_convert_int_string w' _ _ _ _ (by kernel_rfl) (by kernel_rfl)
      have HND : Hid (ringNd k = ⟨⟨#[115]⟩ ++ Go.Utf8.encode (97 + (k : Int)), true, 2⟩) := rfl
      have hes := encode_size_le (97 + (k : Int))
      generalize Go.Utf8.encode (97 + (k : Int)) = en at *
      go_wp2_with (at_builtin; refine wpList_append_any _ rfl (.tmp 17) (.tmp 24) 37 rfl (w.heap.size + 6) 93 iN _ 3 32 Try.underlying37 hiN hzN hzN1 hzN2 rfl (by decide) _ _ _ rfl (OW1.out.alloc _) (wr.heap.size + 1) (some ⟨wr.heap.size, 0, none⟩) 1 1 [.string (⟨#[115]⟩ ++ en), .bool true, .int .i64 2] rfl (reads_new wr 93 #[.string (⟨#[115]⟩ ++ en), .bool true, .int .i64 2] rfl) ?n2 ?n3 ?n4 ?n5 ?_)
      case n2 => intro u hu; simp at hu; rcases hu with rfl | rfl | rfl <;> rfl
      case n3 => unfold maxLen; omega
      case n4 => omega
      case n5 => simp; omega
      intro v1' w2 own2 g2 loc2
      obtain ⟨b1, q1, hv1⟩ := ownsRow_pos (by omega) own2
      have hs2 := g2.size
      have RB2 : Hid (RB w2 w.heap.size v1 v2 v3 v4) := (RB0.out.alloc _).grown g2 (fun q e => (OW1.out.lt q e).1)
      have SL2 : Hid (Slots w2 (w.heap.size + 6) (sN (k + 1) v1' :: sC n k v2 :: sL n k v3 :: sT k v4 L :: L.flatMap (slF 3 n))) := by
        have h := (SL.out.alloc (.cells #[.string (⟨#[115]⟩ ++ en), .bool true, .int .i64 2] 93)).push own2 g2 (by rw [World.size_alloc]; exact loc2)
        have e : (nodesK k).flatMap cN ++ [.string (⟨#[115]⟩ ++ en), .bool true, .int .i64 2] = (nodesK (k + 1)).flatMap cN := by
          unfold nodesK; rw [List.range_succ, List.map_append, List.flatMap_append]; simp [cN, HND.out]
        rw [e] at h
        exact h
      have BE2 : Hid (Below w.heap.size w w2) := (BE.out.alloc (by omega) _).grown g2 (by simp; omega) (fun q e => by have := (OW1.out.lt q e).1; omega)
      have c2 : w2.cell? ⟨w.heap.size + 1 + 1 + 1, 0, none⟩ = some v1 := RB2.out.2.2.2.1.cell 0
      have f2 := RB2.out.2.2.2.1.frozen 0
      have RB3 := Lib.hid (RB2.out.set1 v1')
      have SL3 : Hid (Slots (w2.setCell ⟨w.heap.size + 1 + 1 + 1, 0, none⟩ v1') (w.heap.size + 6) (sC n k v2 :: sN (k + 1) v1' :: sL n k v3 :: sT k v4 L :: L.flatMap (slF 3 n))) :=
        (SL2.out.low (only_setCell (only_refl w2 (some (w.heap.size + 1 + 1 + 1))) (.inl rfl) _) (by omega)).perm (List.Perm.swap _ _ _)
      have BE3 : Hid (Below w.heap.size w (w2.setCell ⟨w.heap.size + 1 + 1 + 1, 0, none⟩ v1')) := BE2.out.setCell (by show w.heap.size ≤ w.heap.size + 1 + 1 + 1; omega) _
      obtain ⟨w3, hw3⟩ : ∃ w3 : World, w2.setCell ⟨w.heap.size + 1 + 1 + 1, 0, none⟩ v1' = w3 := ⟨_, rfl⟩
      rw [hw3] at RB3 SL3 BE3
      have HW3 := Lib.hid hw3
      clear hw3 own2 g2 loc2 SL2 RB2 BE2 OW1 RB0 SL BE hw1 hw2 hcv HND hes c1 f1
      subst hv1
      go_wp2_with fail
      rw [HW3.out]
      generalize Value.slice (some ⟨b1, 0, none⟩) (k + 1) q1 = v1' at *
      clear HW3 c2 f2
      have c3 : w3.cell? ⟨w.heap.size + 1 + 1 + 1, 1, none⟩ = some v2 := RB3.out.2.2.2.1.cell 1
      have f3 := RB3.out.2.2.2.1.frozen 1
      have OW2 : Hid (w3.ownsRow (w.heap.size + 6) 47 6 v2 k ((cabsK n k).flatMap cC)) := SL3.out.head
      have hs3 := RB3.out.2.2.2.2.2.lt
      have hq1 : IntKind.i64.wrap ((k : Int) + 1) = (k : Int) + 1 := IntWalk.i64_in _ (by omega)
      have hq2 : n ≠ 0 := by omega
      obtain ⟨m, hm⟩ : ∃ m : Nat, (k + 1) % n = m := ⟨_, rfl⟩
      have hq3 : ((k : Int) + 1).tmod (n : Int) = (m : Int) := by
        rw [← hm, Int.tmod_eq_emod_of_nonneg (by omega)]; simp
      have hml : m < n := by rw [← hm]; exact Nat.mod_lt _ (by omega)
      have HCB : Hid (ringCb n k = ⟨k, 0, m, 1, 1, 1⟩) := by rw [Hid]; unfold ringCb; rw [hm]
      clear hm
      have c3a : (w3.alloc (.cells #[.int .i64 k, .int .i64 0, .int .i64 m, .int .i64 1, .int .i64 1, .int .i64 1] 47)).cell? ⟨w.heap.size + 1 + 1 + 1, 1, none⟩ = some v2 := (RB3.out.alloc _).2.2.2.1.cell 1
      go_region_law
        (first
          | (refine step_append_any _ (by rfl) (.tmp 28) (.tmp 35) 38 (by rfl) (w.heap.size + 6) 47 iC _ 6 48 Try.underlying38 hiC hzC hzC1 hzC2 rfl (by decide) _ _ _ (by rfl) ((OW2.out.alloc _).drew) (w3.heap.size + 1) (some ⟨w3.heap.size, 0, none⟩) 1 1 [.int .i64 k, .int .i64 0, .int .i64 m, .int .i64 1, .int .i64 1, .int .i64 1] (by rfl) (reads_new w3 47 #[.int .i64 k, .int .i64 0, .int .i64 m, .int .i64 1, .int .i64 1, .int .i64 1] rfl) ?_ ?_ ?_ ?_ ?_; (intro u hu; simp at hu; rcases hu with rfl | rfl | rfl | rfl | rfl | rfl <;> rfl); (unfold maxLen; omega); omega; (simp; omega); intro v2' w4 own4 g4 loc4; obtain ⟨b2, q2, hv2⟩ := ownsRow_pos (by omega) own4; rw [hv2]; have c4 : w4.cell? ⟨w.heap.size + 1 + 1 + 1, 1, none⟩ = some v2 := ((RB3.out.alloc _).drew.grown g4 (fun q e => (OW2.out.lt q e).1)).2.2.2.1.cell 1; have f4 : w4.frozen? ⟨w.heap.size + 1 + 1 + 1, 1, none⟩ = false := ((RB3.out.alloc _).drew.grown g4 (fun q e => (OW2.out.lt q e).1)).2.2.2.1.frozen 1))
      all_goals
        have RB4 : Hid (RB w4 w.heap.size v1' v2 v3 v4) := (RB3.out.alloc _).drew.grown g4 (fun q e => (OW2.out.lt q e).1)
        have SL4 : Hid (Slots w4 (w.heap.size + 6) (sC n (k + 1) v2' :: sN (k + 1) v1' :: sL n k v3 :: sT k v4 L :: L.flatMap (slF 3 n))) := by
          have h := (SL3.out.alloc (.cells #[.int .i64 k, .int .i64 0, .int .i64 m, .int .i64 1, .int .i64 1, .int .i64 1] 47)).drew.push own4 g4 (by exact loc4)
          have e : (cabsK n k).flatMap cC ++ [.int .i64 k, .int .i64 0, .int .i64 m, .int .i64 1, .int .i64 1, .int .i64 1] = (cabsK n (k + 1)).flatMap cC := by
            unfold cabsK; rw [List.range_succ, List.map_append, List.flatMap_append]; simp [cC, HCB.out]
          rw [e] at h
          exact h
        have BE4 : Hid (Below w.heap.size w w4) := ((BE3.out.alloc (by omega) _).drew).grown g4 (by simp; omega) (fun q e => by have := (OW2.out.lt q e).1; omega)
        have RB5 := Lib.hid (RB4.out.set2 v2')
        have SL5 : Hid (Slots (w4.setCell ⟨w.heap.size + 1 + 1 + 1, 1, none⟩ v2') (w.heap.size + 6) (sL n k v3 :: sC n (k + 1) v2' :: sN (k + 1) v1' :: sT k v4 L :: L.flatMap (slF 3 n))) :=
          (SL4.out.low (only_setCell (only_refl w4 (some (w.heap.size + 1 + 1 + 1))) (.inl rfl) _) (by omega)).perm (List.perm_middle (l₁ := [_, _]))
        have BE5 : Hid (Below w.heap.size w (w4.setCell ⟨w.heap.size + 1 + 1 + 1, 1, none⟩ v2')) := BE4.out.setCell (by show w.heap.size ≤ w.heap.size + 1 + 1 + 1; omega) _
        subst hv2
        generalize hw5 : w4.setCell ⟨w.heap.size + 1 + 1 + 1, 1, none⟩ (.slice (some ⟨b2, 0, none⟩) (k + 1) q2) = w5 at *
        clear hw5 own4 g4 loc4 SL4 RB4 BE4 OW2 RB3 SL3 BE3 c3 f3 c3a c4 f4 hq1 hq3 hs2
        generalize Value.slice (some ⟨b2, 0, none⟩) (k + 1) q2 = v2' at *
        clear w4 b2 q2
        revert v2' w5
      refine ?rest8
      rotate_left
      exact ?rest8
      intro w5 BE5 v2' RB5 SL5
      have c5 : w5.cell? ⟨w.heap.size + 1 + 1 + 1 + 1, 0, none⟩ = some v3 := RB5.out.2.2.2.2.1.cell 0
      have f5 := RB5.out.2.2.2.2.1.frozen 0
      have OW3 : Hid (w5.ownsRow (w.heap.size + 6) 3 1 v3 k ((lvsK n k).flatMap cI)) := SL5.out.head
      have hs5 := RB5.out.2.2.2.2.2.lt
      obtain ⟨A3, C3, rfl⟩ := own_shape OW3.out
      have hz1 : IntKind.i64.wrap ((n : Int) - (k : Int)) = (n : Int) - (k : Int) := IntWalk.i64_in _ (by omega)
      obtain ⟨z, hmn⟩ : ∃ z : Int, (if (n : Int) - (k : Int) < (k : Int) then (n : Int) - (k : Int) else (k : Int)) = z := ⟨_, rfl⟩
      have HLV : Hid (ringLv n k = z) := by
        rw [Hid, ← hmn]; unfold ringLv; split <;> omega
      go_wp2_with (at_builtin; refine wpList_append_any _ rfl (.tmp 39) (.tmp 45) 49 rfl (w.heap.size + 6) 3 iI _ 1 8 Try.underlying49 hiI hzI hzI1 hzI2 rfl (by decide) _ _ _ rfl (OW3.out.alloc _) (w5.heap.size + 1) (some ⟨w5.heap.size, 0, none⟩) 1 1 [.int .i64 z] rfl (reads_new w5 3 #[.int .i64 z] rfl) ?n2 ?n3 ?n4 ?n5 ?_)
      case n2 => intro u hu; simp at hu; subst hu; rfl
      case n3 => unfold maxLen; omega
      case n4 => omega
      case n5 => simp; omega
      intro v3' w6 own6 g6 loc6
      obtain ⟨b3, q3, hv3⟩ := ownsRow_pos (by omega) own6
      have RB6 : Hid (RB w6 w.heap.size v1' v2' (.slice A3 k C3) v4) := (RB5.out.alloc _).grown g6 (fun q e => (OW3.out.lt q e).1)
      have SL6 : Hid (Slots w6 (w.heap.size + 6) (sL n (k + 1) v3' :: sC n (k + 1) v2' :: sN (k + 1) v1' :: sT k v4 L :: L.flatMap (slF 3 n))) := by
        have h := (SL5.out.alloc (.cells #[.int .i64 z] 3)).push own6 g6 (by rw [World.size_alloc]; exact loc6)
        have e : (lvsK n k).flatMap cI ++ [.int .i64 z] = (lvsK n (k + 1)).flatMap cI := by
          unfold lvsK; rw [List.range_succ, List.map_append, List.flatMap_append]; simp [cI, HLV.out]
        rw [e] at h
        exact h
      have BE6 : Hid (Below w.heap.size w w6) := (BE5.out.alloc (by omega) _).grown g6 (by simp; omega) (fun q e => by have := (OW3.out.lt q e).1; omega)
      have c6 : w6.cell? ⟨w.heap.size + 1 + 1 + 1 + 1, 0, none⟩ = some (.slice A3 k C3) := RB6.out.2.2.2.2.1.cell 0
      have f6 := RB6.out.2.2.2.2.1.frozen 0
      have RB7 := Lib.hid (RB6.out.set3 v3')
      have SL7 : Hid (Slots (w6.setCell ⟨w.heap.size + 1 + 1 + 1 + 1, 0, none⟩ v3') (w.heap.size + 6) (sL n (k + 1) v3' :: sC n (k + 1) v2' :: sN (k + 1) v1' :: sT k v4 L :: L.flatMap (slF 3 n))) :=
        (SL6.out.low (only_setCell (only_refl w6 (some (w.heap.size + 1 + 1 + 1 + 1))) (.inl rfl) _) (by omega))
      have BE7 : Hid (Below w.heap.size w (w6.setCell ⟨w.heap.size + 1 + 1 + 1 + 1, 0, none⟩ v3')) := BE6.out.setCell (by show w.heap.size ≤ w.heap.size + 1 + 1 + 1 + 1; omega) _
      obtain ⟨w7, hw7⟩ : ∃ w7 : World, w6.setCell ⟨w.heap.size + 1 + 1 + 1 + 1, 0, none⟩ v3' = w7 := ⟨_, rfl⟩
      rw [hw7] at RB7 SL7 BE7
      rw [hv3] at hw7
      obtain ⟨a, ha⟩ : ∃ a : Nat, w6.heap.size = a := ⟨_, rfl⟩
      have ha7 : w7.heap.size = a := by rw [← hw7, ← ha]; simp
      have HW7 := Lib.hid hw7
      have HV3 := Lib.hid hv3
      clear hw7 own6 g6 loc6 SL6 RB6 BE6 OW3 RB5 SL5 BE5 hmn hz1 c5 f5 hv3
      rw [HV3.out]
      go_wp2_with fail
      rw [HW7.out]
      clear HW7 c6 f6 HV3
      have RB8 : Hid (RB (w7.alloc (.cells #[.slice none 0 0, .slice none 0 0] 97)) w.heap.size v1' v2' v3' v4) := RB7.out.alloc _
      have SL8 : Hid (Slots (w7.alloc (.cells #[.slice none 0 0, .slice none 0 0] 97)) (w.heap.size + 6) (sR k 0 (.slice none 0 0) :: sR k 0 (.slice none 0 0) :: sA a (.slice none 0 0) (.slice none 0 0) :: (sL n (k + 1) v3' :: sC n (k + 1) v2' :: sN (k + 1) v1' :: sT k v4 L :: L.flatMap (slF 3 n)))) := by
        have h := SL7.out.fresh 97 #[.slice none 0 0, .slice none 0 0] 1 2 rfl (by have := RB7.out.2.2.2.2.2.lt; omega) (by unfold maxLen; omega)
        rw [ha7] at h
        exact (h.empty 3 1).empty 3 1
      have BE8 : Hid (Below w.heap.size w (w7.alloc (.cells #[.slice none 0 0, .slice none 0 0] 97))) := BE7.out.alloc (by have := RB7.out.2.2.2.2.2.lt; omega) _
      obtain ⟨w8, hw8⟩ : ∃ w8 : World, w7.alloc (.cells #[.slice none 0 0, .slice none 0 0] 97) = w8 := ⟨_, rfl⟩
      rw [hw8] at RB8 SL8 BE8
      have ha8 : Hid (w.heap.size + 6 ≤ a) := by rw [Hid]; have := RB7.out.2.2.2.2.2.lt; omega
      have HW8 := Lib.hid hw8
      clear hw8 RB7 SL7 BE7
      go_wp2_with fail
      rw [HW8.out]
      clear HW8 ha ha7
      generalize hS0 : (sL n (k + 1) v3' :: sC n (k + 1) v2' :: sN (k + 1) v1' :: sT k v4 L :: L.flatMap (slF 3 n)) = S0 at *
      have HS0 := Lib.hid hS0
      clear hS0
      go_loopw [49] (fun i wr => RelR2 n w.heap.size k a v1' v2' v3' v4 S0 w i wr) (fun i _ => n - (RowKit.intOf i).toNat)
      case atStart => exact ⟨0, _, _, Nat.zero_le _, rfl, RB8.out, SL8.out, BE8.out⟩
      case round =>
        clear RB8 SL8 BE8
        obtain ⟨d, r0, r1, hd, rfl, rbq, slq, beq⟩ := hrel
        by_cases hdn : d < n
        · have hdi : (d : Int) < (n : Int) := by omega
          have OWQ : Hid (wr.ownsRow (w.heap.size + 6) 3 1 r0 d ((rowK k d).flatMap cI)) := slq.head
          have SLQ := Lib.hid slq
          have RBQ := Lib.hid rbq
          have BEQ := Lib.hid beq
          have hsq := rbq.2.2.2.2.2.lt
          have CQ : Hid (∀ W, Slots W (w.heap.size + 6) (sR k d r0 :: sR k d r1 :: sA a r0 r1 :: S0) → W.cell? ⟨a, 0, none⟩ = some r0 ∧ W.cell? ⟨a, 1, none⟩ = some r1 ∧ W.frozen? ⟨a, 0, none⟩ = false) := fun W h => by
            have h0 := h.1 (sA a r0 r1) (by simp)
            exact ⟨World.ownsRow.cellAt h0 0 (by show 0 < 1 * 2; omega), World.ownsRow.cellAt h0 1 (by show 1 < 1 * 2; omega), World.ownsRow.frozenAt h0 0⟩
          have CA : Hid (∀ W s s', Slots W (w.heap.size + 6) (s :: s' :: sA a r0 r1 :: S0) → W.cell? ⟨a, 0, none⟩ = some r0 ∧ W.cell? ⟨a, 1, none⟩ = some r1 ∧ W.frozen? ⟨a, 0, none⟩ = false) := fun W s s' h => by
            have h0 := h.1 (sA a r0 r1) (by simp)
            exact ⟨World.ownsRow.cellAt h0 0 (by show 0 < 1 * 2; omega), World.ownsRow.cellAt h0 1 (by show 1 < 1 * 2; omega), World.ownsRow.frozenAt h0 0⟩
          clear slq rbq beq
          -- ARMS
          clear HL HCB HLV HS0 gs hs3 hs5
          go_upto_if 55 with fail
          go_cut [11] from 50 to 68 (fun s11 wx => s11 = .int .i64 (ringC k d) ∧ wx = wr)
          case first =>
            clear SLQ RBQ BEQ CQ CA OWQ
            by_cases hdk : d = k
            · have hz : Hid (ringC k d = -2) := by rw [Hid]; unfold ringC; rw [if_pos hdk]
              subst hdk
              go_wp2_with fail
              go_meet
              case rel => exact ⟨by rw [hz.out], rfl⟩
            · have hz : Hid (ringC k d = k) := by rw [Hid]; unfold ringC; rw [if_neg hdk]
              go_wp2_with fail
              go_meet
              case rel => exact ⟨by rw [hz.out], rfl⟩
          case rest =>
            obtain ⟨hs11, hwx⟩ := hcut
            have hwx2 := hwx.symm
            subst hwx2
            clear hwx
            subst hs11
            generalize hz2 : ringC k d = z at *
            have RKS : Hid (rowK k (d + 1) = rowK k d ++ [z]) := by rw [Hid]; unfold rowK; rw [List.range_succ, List.map_append, ← hz2]; rfl
            clear hz2
            have SLT : Hid (∀ (W W' : World) (r v' : Value) (T : List Slot), Slots W (w.heap.size + 6) (sR k d r :: T) → W'.ownsRow (w.heap.size + 6) 3 1 v' (d + 1) ((rowK k d).flatMap cI ++ [.int .i64 z]) → W.grownBy W' r.ownBlock → (v'.ownBlock = r.ownBlock ∨ v'.ownBlock = some W.heap.size) → Slots W' (w.heap.size + 6) (sR k (d + 1) v' :: T)) := fun W W' r v' T h1 h2 h3 h4 => by
              have h5 := h1.push h2 h3 h4
              have e : (rowK k d).flatMap cI ++ [.int .i64 z] = (rowK k (d + 1)).flatMap cI := by rw [RKS.out, List.flatMap_append]; rfl
              rw [e] at h5
              exact h5
            have CS : Hid (∀ W T, Slots W (w.heap.size + 6) (sA a r0 r1 :: T) → W.cell? ⟨a, 0, none⟩ = some r0 ∧ W.frozen? ⟨a, 0, none⟩ = false ∧ ∀ u, (W.setCell ⟨a, 0, none⟩ u).cell? ⟨a, 1, none⟩ = some r1 ∧ (W.setCell ⟨a, 0, none⟩ u).frozen? ⟨a, 1, none⟩ = false) := fun W T h =>
              ⟨h.head.cellAt 0 (by show 0 < 1 * 2; omega), h.head.frozenAt 0, fun u => ⟨(h.store 0 (by show 0 < 1 * 2; omega) u).head.cellAt 1 (by show 1 < 1 * 2; omega), (h.store 0 (by show 0 < 1 * 2; omega) u).head.frozenAt 1⟩⟩
            have FINQ : Hid (∀ w65 v60 v65, Slots w65 (w.heap.size + 6) (sA a r0 r1 :: sR k (d + 1) v60 :: sR k (d + 1) v65 :: S0) → (RB w65 w.heap.size v1' v2' v3' v4 ∧ Below w.heap.size w w65) → RelR2 n w.heap.size k a v1' v2' v3' v4 S0 w (.int .i64 ((d + 1 : Nat) : Int)) ((w65.setCell ⟨a, 0, none⟩ v60).setCell ⟨a, 1, none⟩ v65)) := fun w65 v60 v65 h1 h2 => by
              have h3 := ((h1.store 0 (by show 0 < 1 * 2; omega) v60).store 1 (by show 1 < 1 * 2; omega) v65).perm (List.perm_middle (l₁ := [sR k (d + 1) v60, sR k (d + 1) v65])).symm
              exact ⟨d + 1, v60, v65, by omega, rfl, (h2.1.grown (only_setCell (only_refl w65 (some a)) (.inl rfl) _) (fun q e => by injection e with e; have := ha8.out; omega)).grown (only_setCell (only_refl _ (some a)) (.inl rfl) _) (fun q e => by injection e with e; have := ha8.out; omega), h3, (h2.2.setCell (by show w.heap.size ≤ a; have := ha8.out; omega) _).setCell (by show w.heap.size ≤ a; have := ha8.out; omega) _⟩
            have BLN : Hid (∀ g, wr.heap.size ≤ g → r0.ownBlock ≠ some g) := fun g hg he => (by have := (OWQ.out.lt g he).2; omega)
            obtain ⟨W1, hW1⟩ : ∃ W1 : World, wr.alloc (.cells #[.int .i64 z] 3) = W1 := ⟨_, rfl⟩
            obtain ⟨W2, hW2⟩ : ∃ W2 : World, W1.alloc (.cells #[.int .i64 z] 3) = W2 := ⟨_, rfl⟩
            have SL1 : Hid (Slots W1 (w.heap.size + 6) (sR k d r0 :: sR k d r1 :: sA a r0 r1 :: S0)) := by rw [← hW1]; exact SLQ.out.alloc _
            have SL2 : Hid (Slots W2 (w.heap.size + 6) (sR k d r0 :: sR k d r1 :: sA a r0 r1 :: S0)) := by rw [← hW2]; exact SL1.out.alloc _
            have SZ1 : Hid (W1.heap.size = wr.heap.size + 1) := by rw [Hid, ← hW1]; simp
            have SZ2 : Hid (W2.heap.size = W1.heap.size + 1) := by rw [Hid, ← hW2]; simp
            have BL1 : Hid (Blk W1 wr.heap.size 3 #[.int .i64 z]) := by rw [← hW1]; exact Blk.new _ _ _
            have BL2a : Hid (Blk W2 wr.heap.size 3 #[.int .i64 z]) := by rw [← hW2]; exact BL1.out.alloc _
            have BL2b : Hid (Blk W2 W1.heap.size 3 #[.int .i64 z]) := by rw [← hW2]; exact Blk.new _ _ _
            have XF : Hid (∀ W W' row, (RB W w.heap.size v1' v2' v3' v4 ∧ Below w.heap.size w W ∧ w.heap.size + 6 ≤ W.heap.size) → ∀ {V : World}, (V = W ∨ ∃ o, V = W.alloc o) → V.grownBy W' row → (∀ q, row = some q → w.heap.size + 6 ≤ q) → RB W' w.heap.size v1' v2' v3' v4 ∧ Below w.heap.size w W') := fun W W' row h V hV hg hr => by
              rcases hV with rfl | ⟨o, rfl⟩
              · exact ⟨h.1.grown hg hr, h.2.1.grown hg (by have := h.2.2; omega) (fun q e => by have := hr q e; omega)⟩
              · exact ⟨(h.1.alloc o).grown hg hr, (h.2.1.alloc (by have := h.2.2; omega) o).grown hg (by have := h.2.2; simp; omega) (fun q e => by have := hr q e; omega)⟩
            have XQ1 : Hid (RB W1.drew w.heap.size v1' v2' v3' v4 ∧ Below w.heap.size w W1.drew ∧ w.heap.size + 6 ≤ W1.drew.heap.size) := by
              refine ⟨?_, ?_, by show _ ≤ W1.heap.size; have := SZ1.out; omega⟩
              · rw [← hW1]; exact (RBQ.out.alloc _).drew
              · rw [← hW1]; exact (BEQ.out.alloc (by omega) _).drew
            have XQ2 : Hid (RB W2.drew w.heap.size v1' v2' v3' v4 ∧ Below w.heap.size w W2.drew ∧ w.heap.size + 6 ≤ W2.drew.heap.size) := by
              refine ⟨?_, ?_, by show _ ≤ W2.heap.size; have := SZ1.out; have := SZ2.out; omega⟩
              · rw [← hW2, ← hW1]; exact ((RBQ.out.alloc _).alloc _).drew
              · rw [← hW2, ← hW1]; exact ((BEQ.out.alloc (by omega) _).alloc (by simp; omega) _).drew
            have XT : Hid (∀ (V W' : World), (RB V w.heap.size v1' v2' v3' v4 ∧ Below w.heap.size w V ∧ w.heap.size + 6 ≤ V.heap.size) → V.grownBy W' r0.ownBlock → RB W' w.heap.size v1' v2' v3' v4 ∧ Below w.heap.size w W' ∧ w.heap.size + 6 ≤ W'.heap.size) := fun V W' h hg => by
              have h2 := XF.out V W' r0.ownBlock h (.inl rfl) hg (fun q e => (OWQ.out.lt q e).1)
              exact ⟨h2.1, h2.2, by have := hg.size; have := h.2.2; omega⟩
            go_wp2_with fail
            have cq0 := (CQ.out _ SLQ.out).1
            have cq1 := (CQ.out _ SLQ.out).2.1
            have cr0 := (CQ.out _ SL1.out).1
            have cr1 := (CQ.out _ SL1.out).2.1
            have cs0 := (CQ.out _ SL2.out).1
            have cs1 := (CQ.out _ SL2.out).2.1
            go_region_law
              (first
                | (refine step_append_any _ (by rfl) (.tmp 57) (.tmp 59) 49 (by rfl) (w.heap.size + 6) 3 iI _ 1 8 Try.underlying49 hiI hzI hzI1 hzI2 rfl (by decide) _ _ _ (by rfl) (sR_own SL1.out.drew) (wr.heap.size + 1) (some ⟨wr.heap.size, 0, none⟩) 1 1 [.int .i64 z] (by rfl) (reads_blk BL1.out.drew rfl) ?_ ?_ ?_ ?_ ?_; (intro u hu; simp at hu; subst hu; rfl); (unfold maxLen; omega); omega; (first | (have := SZ1.out; have := SZ2.out; simp; omega) | (have := SZ1.out; have := SZ2.out; omega)); intro v60 w60 own60 gr60 loc60; obtain ⟨b6, q6, hv6⟩ := ownsRow_pos (by omega) own60; rw [hv6]; have S60 : Hid (Slots w60 (w.heap.size + 6) (sR k d r1 :: sR k (d + 1) v60 :: sA a r0 r1 :: S0)) := (SLT.out _ _ _ _ _ SL1.out.drew own60 gr60 loc60).perm (List.Perm.swap _ _ _); have X60 : Hid (RB w60 w.heap.size v1' v2' v3' v4 ∧ Below w.heap.size w w60 ∧ w.heap.size + 6 ≤ w60.heap.size) := XT.out _ _ XQ1.out gr60; have d60 : w60.cell? ⟨a, 1, none⟩ = some r1 := (CA.out _ _ _ S60.out).2.1; have e60 : (w60.alloc (.cells #[.int .i64 z] 3)).cell? ⟨a, 1, none⟩ = some r1 := (CA.out _ _ _ (S60.out.alloc _)).2.1; have hge := X60.out.2.2)
                | (refine step_append_any _ (by rfl) (.tmp 57) (.tmp 59) 49 (by rfl) (w.heap.size + 6) 3 iI _ 1 8 Try.underlying49 hiI hzI hzI1 hzI2 rfl (by decide) _ _ _ (by rfl) (sR_own SL2.out.drew) (wr.heap.size + 1) (some ⟨wr.heap.size, 0, none⟩) 1 1 [.int .i64 z] (by rfl) (reads_blk BL2a.out.drew rfl) ?_ ?_ ?_ ?_ ?_; (intro u hu; simp at hu; subst hu; rfl); (unfold maxLen; omega); omega; (first | (have := SZ1.out; have := SZ2.out; simp; omega) | (have := SZ1.out; have := SZ2.out; omega)); intro v60 w60 own60 gr60 loc60; obtain ⟨b6, q6, hv6⟩ := ownsRow_pos (by omega) own60; rw [hv6]; have S60 : Hid (Slots w60 (w.heap.size + 6) (sR k d r1 :: sR k (d + 1) v60 :: sA a r0 r1 :: S0)) := (SLT.out _ _ _ _ _ SL2.out.drew own60 gr60 loc60).perm (List.Perm.swap _ _ _); have X60 : Hid (RB w60 w.heap.size v1' v2' v3' v4 ∧ Below w.heap.size w w60 ∧ w.heap.size + 6 ≤ w60.heap.size) := XT.out _ _ XQ2.out gr60; have d60 : w60.cell? ⟨a, 1, none⟩ = some r1 := (CA.out _ _ _ S60.out).2.1; have e60 : (w60.alloc (.cells #[.int .i64 z] 3)).cell? ⟨a, 1, none⟩ = some r1 := (CA.out _ _ _ (S60.out.alloc _)).2.1; have hge := X60.out.2.2; have BZa : Hid (Blk w60 wr.heap.size 3 #[.int .i64 z]) := BL2a.out.drew.grown gr60 (fun h => BLN.out _ (Nat.le_refl _) h.symm); have BZb : Hid (Blk w60 W1.heap.size 3 #[.int .i64 z]) := BL2b.out.drew.grown gr60 (fun h => BLN.out _ (by have := SZ1.out; omega) h.symm))
                | (refine step_append_any _ (by rfl) (.tmp 57) (.tmp 59) 49 (by rfl) (w.heap.size + 6) 3 iI _ 1 8 Try.underlying49 hiI hzI hzI1 hzI2 rfl (by decide) _ _ _ (by rfl) (sR_own SL2.out.drew) (W1.heap.size + 1) (some ⟨W1.heap.size, 0, none⟩) 1 1 [.int .i64 z] (by rfl) (reads_blk BL2b.out.drew rfl) ?_ ?_ ?_ ?_ ?_; (intro u hu; simp at hu; subst hu; rfl); (unfold maxLen; omega); omega; (first | (have := SZ1.out; have := SZ2.out; simp; omega) | (have := SZ1.out; have := SZ2.out; omega)); intro v60 w60 own60 gr60 loc60; obtain ⟨b6, q6, hv6⟩ := ownsRow_pos (by omega) own60; rw [hv6]; have S60 : Hid (Slots w60 (w.heap.size + 6) (sR k d r1 :: sR k (d + 1) v60 :: sA a r0 r1 :: S0)) := (SLT.out _ _ _ _ _ SL2.out.drew own60 gr60 loc60).perm (List.Perm.swap _ _ _); have X60 : Hid (RB w60 w.heap.size v1' v2' v3' v4 ∧ Below w.heap.size w w60 ∧ w.heap.size + 6 ≤ w60.heap.size) := XT.out _ _ XQ2.out gr60; have d60 : w60.cell? ⟨a, 1, none⟩ = some r1 := (CA.out _ _ _ S60.out).2.1; have e60 : (w60.alloc (.cells #[.int .i64 z] 3)).cell? ⟨a, 1, none⟩ = some r1 := (CA.out _ _ _ (S60.out.alloc _)).2.1; have hge := X60.out.2.2; have BZa : Hid (Blk w60 wr.heap.size 3 #[.int .i64 z]) := BL2a.out.drew.grown gr60 (fun h => BLN.out _ (Nat.le_refl _) h.symm); have BZb : Hid (Blk w60 W1.heap.size 3 #[.int .i64 z]) := BL2b.out.drew.grown gr60 (fun h => BLN.out _ (by have := SZ1.out; omega) h.symm))
                | (refine step_append_any _ (by rfl) (.tmp 62) (.tmp 64) 49 (by rfl) (w.heap.size + 6) 3 iI _ 1 8 Try.underlying49 hiI hzI hzI1 hzI2 rfl (by decide) _ _ _ (by rfl) (sR_own (S60.out.alloc (.cells #[.int .i64 z] 3))) (w60.heap.size + 1) (some ⟨w60.heap.size, 0, none⟩) 1 1 [.int .i64 z] (by rfl) (reads_new w60 3 #[.int .i64 z] rfl) ?_ ?_ ?_ ?_ ?_; (intro u hu; simp at hu; subst hu; rfl); (unfold maxLen; omega); omega; (first | (have := SZ1.out; have := SZ2.out; simp; omega) | (have := SZ1.out; have := SZ2.out; omega)); intro v65 w65 own65 gr65 loc65; obtain ⟨b7, q7, hv7⟩ := ownsRow_pos (by omega) own65; rw [hv7]; have S65 : Hid (Slots w65 (w.heap.size + 6) (sA a r0 r1 :: sR k (d + 1) v60 :: sR k (d + 1) v65 :: S0)) := (((SLT.out _ _ _ _ _ (S60.out.alloc _) own65 gr65 loc65).perm (List.Perm.swap _ _ _)).perm (List.perm_middle (l₁ := [_, _]))); have X65 : Hid (RB w65 w.heap.size v1' v2' v3' v4 ∧ Below w.heap.size w w65) := XF.out _ _ _ X60.out (.inr ⟨_, rfl⟩) gr65 (fun q e => ((sR_own S60.out).lt q e).1); have c65 : w65.cell? ⟨a, 0, none⟩ = some r0 := (CS.out _ _ S65.out).1; have f65 : w65.frozen? ⟨a, 0, none⟩ = false := (CS.out _ _ S65.out).2.1; have c66 : (w65.setCell ⟨a, 0, none⟩ (.slice (some ⟨b6, 0, none⟩) (d + 1) q6)).cell? ⟨a, 1, none⟩ = some r1 := ((CS.out _ _ S65.out).2.2 _).1; have f66 : (w65.setCell ⟨a, 0, none⟩ (.slice (some ⟨b6, 0, none⟩) (d + 1) q6)).frozen? ⟨a, 1, none⟩ = false := ((CS.out _ _ S65.out).2.2 _).2)
                | (refine step_append_any _ (by rfl) (.tmp 62) (.tmp 64) 49 (by rfl) (w.heap.size + 6) 3 iI _ 1 8 Try.underlying49 hiI hzI hzI1 hzI2 rfl (by decide) _ _ _ (by rfl) (sR_own S60.out) (wr.heap.size + 1) (some ⟨wr.heap.size, 0, none⟩) 1 1 [.int .i64 z] (by rfl) (reads_blk BZa.out rfl) ?_ ?_ ?_ ?_ ?_; (intro u hu; simp at hu; subst hu; rfl); (unfold maxLen; omega); omega; (first | (have := SZ1.out; have := SZ2.out; simp; omega) | (have := SZ1.out; have := SZ2.out; omega)); intro v65 w65 own65 gr65 loc65; obtain ⟨b7, q7, hv7⟩ := ownsRow_pos (by omega) own65; rw [hv7]; have S65 : Hid (Slots w65 (w.heap.size + 6) (sA a r0 r1 :: sR k (d + 1) v60 :: sR k (d + 1) v65 :: S0)) := (((SLT.out _ _ _ _ _ (S60.out) own65 gr65 loc65).perm (List.Perm.swap _ _ _)).perm (List.perm_middle (l₁ := [_, _]))); have X65 : Hid (RB w65 w.heap.size v1' v2' v3' v4 ∧ Below w.heap.size w w65) := XF.out _ _ _ X60.out (.inl rfl) gr65 (fun q e => ((sR_own S60.out).lt q e).1); have c65 : w65.cell? ⟨a, 0, none⟩ = some r0 := (CS.out _ _ S65.out).1; have f65 : w65.frozen? ⟨a, 0, none⟩ = false := (CS.out _ _ S65.out).2.1; have c66 : (w65.setCell ⟨a, 0, none⟩ (.slice (some ⟨b6, 0, none⟩) (d + 1) q6)).cell? ⟨a, 1, none⟩ = some r1 := ((CS.out _ _ S65.out).2.2 _).1; have f66 : (w65.setCell ⟨a, 0, none⟩ (.slice (some ⟨b6, 0, none⟩) (d + 1) q6)).frozen? ⟨a, 1, none⟩ = false := ((CS.out _ _ S65.out).2.2 _).2)
                | (refine step_append_any _ (by rfl) (.tmp 62) (.tmp 64) 49 (by rfl) (w.heap.size + 6) 3 iI _ 1 8 Try.underlying49 hiI hzI hzI1 hzI2 rfl (by decide) _ _ _ (by rfl) (sR_own S60.out) (W1.heap.size + 1) (some ⟨W1.heap.size, 0, none⟩) 1 1 [.int .i64 z] (by rfl) (reads_blk BZb.out rfl) ?_ ?_ ?_ ?_ ?_; (intro u hu; simp at hu; subst hu; rfl); (unfold maxLen; omega); omega; (first | (have := SZ1.out; have := SZ2.out; simp; omega) | (have := SZ1.out; have := SZ2.out; omega)); intro v65 w65 own65 gr65 loc65; obtain ⟨b7, q7, hv7⟩ := ownsRow_pos (by omega) own65; rw [hv7]; have S65 : Hid (Slots w65 (w.heap.size + 6) (sA a r0 r1 :: sR k (d + 1) v60 :: sR k (d + 1) v65 :: S0)) := (((SLT.out _ _ _ _ _ (S60.out) own65 gr65 loc65).perm (List.Perm.swap _ _ _)).perm (List.perm_middle (l₁ := [_, _]))); have X65 : Hid (RB w65 w.heap.size v1' v2' v3' v4 ∧ Below w.heap.size w w65) := XF.out _ _ _ X60.out (.inl rfl) gr65 (fun q e => ((sR_own S60.out).lt q e).1); have c65 : w65.cell? ⟨a, 0, none⟩ = some r0 := (CS.out _ _ S65.out).1; have f65 : w65.frozen? ⟨a, 0, none⟩ = false := (CS.out _ _ S65.out).2.1; have c66 : (w65.setCell ⟨a, 0, none⟩ (.slice (some ⟨b6, 0, none⟩) (d + 1) q6)).cell? ⟨a, 1, none⟩ = some r1 := ((CS.out _ _ S65.out).2.2 _).1; have f66 : (w65.setCell ⟨a, 0, none⟩ (.slice (some ⟨b6, 0, none⟩) (d + 1) q6)).frozen? ⟨a, 1, none⟩ = false := ((CS.out _ _ S65.out).2.2 _).2))
            all_goals
              have R := Lib.hid (FINQ.out w65 _ _ (hv6 ▸ hv7 ▸ S65.out) X65.out)
              clear own60 gr60 loc60 own65 gr65 loc65 hv6 hv7 c65 f65 c66 f66 cq0 cq1 cr0 cr1 cs0 cs1 d60 e60 hge hW1 hW2
              go_wp2_with fail
              exact ⟨by simpa using R.out, by simp [RowKit.intOf]; omega⟩
          -- END ARMS
        · obtain rfl : d = n := by omega
          have rb6 := rbq.2.2.2.2.2
          have gs2 := rb6.lt
          have h0 := slq.1 (sA a r0 r1) (by simp)
          have ca0 : wr.cell? ⟨a, 0, none⟩ = some r0 := World.ownsRow.cellAt h0 0 (by show 0 < 1 * 2; omega)
          have ca1 : wr.cell? ⟨a, 1, none⟩ = some r1 := World.ownsRow.cellAt h0 1 (by show 1 < 1 * 2; omega)
          have c4 : wr.cell? ⟨w.heap.size + 1 + 1 + 1 + 1 + 1, 0, none⟩ = some v4 := rb6.cell 0
          have SLQ : Hid (Slots wr (w.heap.size + 6) (sT k v4 L :: sR k d r0 :: sR k d r1 :: sA a r0 r1 :: sL d (k + 1) v3' :: sC d (k + 1) v2' :: sN (k + 1) v1' :: L.flatMap (slF 3 d))) := by
            rw [← HS0.out] at slq
            exact slq.perm (List.perm_middle (l₁ := [_, _, _, _, _, _]))
          have RBQ := Lib.hid rbq
          have BEQ := Lib.hid beq
          have OW4 : Hid (wr.ownsRow (w.heap.size + 6) 97 2 v4 k (L.flatMap cF)) := SLQ.out.head
          have HR := Lib.hid (World.ownsRow.frozenAt h0 0)
          obtain ⟨A4, C4, rfl⟩ := own_shape OW4.out
          have s0 := own_shape (sR_own (slq.perm (List.Perm.refl _)))
          have s1 := own_shape (sR_own (slq.perm (List.Perm.swap _ _ _)))
          obtain ⟨A5, C5, rfl⟩ := s0
          obtain ⟨A6, C6, rfl⟩ := s1
          clear slq rbq beq rb6 h0
          go_wp2_with (at_builtin; refine wpList_append_any _ rfl (.tmp 70) (.tmp 72) 52 rfl (w.heap.size + 6) 97 iA _ 2 48 Try.underlying52 hiA hzA hzA1 hzA2 rfl (by decide) _ _ _ rfl (OW4.out.alloc _) (wr.heap.size + 1) (some ⟨wr.heap.size, 0, none⟩) 1 1 [.slice A5 d C5, .slice A6 d C6] rfl (reads_new wr 97 #[.slice A5 d C5, .slice A6 d C6] rfl) ?n2 ?n3 ?n4 ?n5 ?_)
          case n2 => intro u hu; simp at hu; rcases hu with rfl | rfl <;> rfl
          case n3 => unfold maxLen; omega
          case n4 => omega
          case n5 => simp; omega
          intro v4' w9 own9 g9 loc9
          obtain ⟨b9, q9, hv9⟩ := ownsRow_pos (by omega) own9
          have RB9 : Hid (RB w9 w.heap.size v1' v2' v3' (.slice A4 k C4)) := (RBQ.out.alloc _).grown g9 (fun q e => (OW4.out.lt q e).1)
          have SL9 : Hid (Slots w9 (w.heap.size + 6) (sN (k + 1) v1' :: sC d (k + 1) v2' :: sL d (k + 1) v3' :: sT (k + 1) v4' (L ++ [(.slice A5 d C5, .slice A6 d C6, rowK k d)]) :: (L ++ [((.slice A5 d C5, .slice A6 d C6, rowK k d) : Fin2)]).flatMap (slF 3 d))) := by
            have h := (SLQ.out.alloc (.cells #[.slice A5 d C5, .slice A6 d C6] 97)).push own9 g9 (by rw [World.size_alloc]; exact loc9)
            have h2 := (h.sub (((List.sublist_cons_self (sA a (.slice A5 d C5) (.slice A6 d C6)) _).cons_cons _).cons_cons _ |>.cons_cons _)).perm (perm7 _ _ _ _ _ _ _)
            rw [List.flatMap_append]
            have e : sT (k + 1) v4' (L ++ [(.slice A5 d C5, .slice A6 d C6, rowK k d)]) = ⟨v4', 97, 2, k + 1, L.flatMap cF ++ [.slice A5 d C5, .slice A6 d C6]⟩ := by
              unfold sT; rw [List.flatMap_append]; rfl
            rw [e]
            exact h2
          have BE9 : Hid (Below w.heap.size w w9) := (BEQ.out.alloc (by omega) _).grown g9 (by simp; omega) (fun q e => by have := (OW4.out.lt q e).1; omega)
          have c9 : w9.cell? ⟨w.heap.size + 1 + 1 + 1 + 1 + 1, 0, none⟩ = some (.slice A4 k C4) := RB9.out.2.2.2.2.2.cell 0
          have f9 := RB9.out.2.2.2.2.2.frozen 0
          have R : Hid (RelR d w.heap.size w (.int .i64 ((k + 1 : Nat) : Int)) (w9.setCell ⟨w.heap.size + 1 + 1 + 1 + 1 + 1, 0, none⟩ v4')) := by
            refine ⟨k + 1, _, _, _, _, _, by omega, rfl, RB9.out.set4 v4', SL9.out.low (only_setCell (only_refl w9 (some (w.heap.size + 1 + 1 + 1 + 1 + 1))) (.inl rfl) _) (by omega), ?_, BE9.out.setCell (by show w.heap.size ≤ w.heap.size + 1 + 1 + 1 + 1 + 1; omega) _⟩
            rw [List.map_append, HL.out, List.range_succ, List.map_append]; rfl
          subst hv9
          clear own9 g9 loc9 SL9 BE9 RB9 OW4 SLQ RBQ BEQ HR ca0 ca1 c4 HL HCB HLV HS0
          go_wp2_with fail
          exact ⟨by simpa using R.out, by simp [RowKit.intOf]; omega⟩
    · obtain rfl : k = n := by omega
      obtain ⟨A1, C1, hv1, _⟩ := rec_of_own (d := nd0) (c := cN) (fun _ => rfl) (by decide) (show wr.ownsRow (w.heap.size + 6) 93 3 v1 k ((nodesK k).flatMap cN) from sl.1 (sN k v1) (by simp))
      obtain ⟨A2, C2, hv2, _⟩ := rec_of_own (d := cb0) (c := cC) (fun _ => rfl) (by decide) (show wr.ownsRow (w.heap.size + 6) 47 6 v2 k ((cabsK k k).flatMap cC) from sl.1 (sC k k v2) (by simp))
      obtain ⟨A3, C3, hv3, _⟩ := rec_of_own (d := (0 : Int)) cI_length (by decide) (show wr.ownsRow (w.heap.size + 6) 3 1 v3 k ((lvsK k k).flatMap cI) from sl.1 (sL k k v3) (by simp))
      obtain ⟨A4, C4, hv4, _⟩ := isTab_of_slots (show wr.ownsRow (w.heap.size + 6) 97 2 v4 k (L.flatMap cF) from sl.1 (sT k v4 L) (by simp)) (Slots.sub sl (((List.sublist_cons_self _ _).cons _).cons _ |>.cons _))
      subst hv1
      subst hv2
      subst hv3
      subst hv4
      have HT : L.map (fun q => (q.2.2, q.2.2)) = ringT k := by
        have : L.map (fun q => (q.2.2, q.2.2)) = (L.map (fun q => q.2.2)).map (fun l => (l, l)) := by rw [List.map_map]; rfl
        rw [this, hL, List.map_map]; rfl
      have HLT := Lib.hid HT
      have c1 : wr.cell? ⟨w.heap.size + 1 + 1 + 1, 0, none⟩ = some (.slice A1 k C1) := rb.2.2.2.1.cell 0
      have c2 : wr.cell? ⟨w.heap.size + 1 + 1 + 1, 1, none⟩ = some (.slice A2 k C2) := rb.2.2.2.1.cell 1
      have c3 : wr.cell? ⟨w.heap.size + 1 + 1 + 1 + 1, 0, none⟩ = some (.slice A3 k C3) := rb.2.2.2.2.1.cell 0
      have c4 : wr.cell? ⟨w.heap.size + 1 + 1 + 1 + 1 + 1, 0, none⟩ = some (.slice A4 k C4) := rb.2.2.2.2.2.cell 0
      have gs := rb.2.2.2.2.2.lt
      have BEX := Lib.hid bel
      have SLX := Lib.hid sl
      have g0 : wr.cell? ⟨w.heap.size, 0, none⟩ = some (.slice none 0 0) := rb.1.cell 0
      have g1 : wr.cell? ⟨w.heap.size, 1, none⟩ = some (.slice none 0 0) := rb.1.cell 1
      have g2 : wr.cell? ⟨w.heap.size + 1, 0, none⟩ = some (.slice none 0 0) := rb.2.1.cell 0
      have g3 : wr.cell? ⟨w.heap.size + 1 + 1, 0, none⟩ = some (.slice none 0 0) := rb.2.2.1.cell 0
      have h0 := rb.1.frozen 0
      have h1 := rb.1.frozen 1
      have h2 := rb.2.1.frozen 0
      have h3 := rb.2.2.1.frozen 0
      obtain ⟨rb1, rb2, rb3, rb4, rb5, rb6⟩ := rb
      have FIN : Hid (RingEnd k w ((((wr.setCell ⟨w.heap.size, 0, none⟩ (.slice A1 k C1)).setCell ⟨w.heap.size, 1, none⟩ (.slice A2 k C2)).setCell ⟨w.heap.size + 1, 0, none⟩ (.slice A3 k C3)).setCell ⟨w.heap.size + 1 + 1, 0, none⟩ (.slice A4 k C4)).drew A1 C1 A2 C2 A3 C3 A4 C4 L) := by
        have q1 := ((rb1.set_ 0 (.slice A1 k C1)).set_ 1 (.slice A2 k C2))
        have q2 := ((q1.far (p := ⟨w.heap.size + 1, 0, none⟩) (by show w.heap.size ≠ w.heap.size + 1; omega) (.slice A3 k C3)).far (p := ⟨w.heap.size + 1 + 1, 0, none⟩) (by show w.heap.size ≠ w.heap.size + 1 + 1; omega) (.slice A4 k C4)).drew
        have q3 := (((((rb2.far (p := ⟨w.heap.size, 0, none⟩) (by show w.heap.size + 1 ≠ w.heap.size; omega) (.slice A1 k C1)).far (p := ⟨w.heap.size, 1, none⟩) (by show w.heap.size + 1 ≠ w.heap.size; omega) (.slice A2 k C2)).set_ 0 (.slice A3 k C3)).far (p := ⟨w.heap.size + 1 + 1, 0, none⟩) (by show w.heap.size + 1 ≠ w.heap.size + 1 + 1; omega) (.slice A4 k C4))).drew
        have q4 := (((((rb3.far (p := ⟨w.heap.size, 0, none⟩) (by show w.heap.size + 1 + 1 ≠ w.heap.size; omega) (.slice A1 k C1)).far (p := ⟨w.heap.size, 1, none⟩) (by show w.heap.size + 1 + 1 ≠ w.heap.size; omega) (.slice A2 k C2)).far (p := ⟨w.heap.size + 1, 0, none⟩) (by show w.heap.size + 1 + 1 ≠ w.heap.size + 1; omega) (.slice A3 k C3)).set_ 0 (.slice A4 k C4))).drew
        refine ⟨q2.cell 0, q2.cell 1, q3.cell 0, q4.cell 0, ?_, ?_⟩
        · exact ((((SLX.out.setLow (by show w.heap.size < _; omega) _).setLow (by show w.heap.size < _; omega) _).setLow (by show w.heap.size + 1 < _; omega) _).setLow (by show w.heap.size + 1 + 1 < _; omega) _).drew
        · exact ((((BEX.out.setCell (by show w.heap.size ≤ w.heap.size; omega) _).setCell (by show w.heap.size ≤ w.heap.size; omega) _).setCell (by show w.heap.size ≤ w.heap.size + 1; omega) _).setCell (by show w.heap.size ≤ w.heap.size + 1 + 1; omega) _).drew
      clear sl bel HT hL rb1 rb2 rb3 rb4 rb5 rb6
      go_upto_region 21 with fail
      go_cut [] from 76 to 78 (fun wx => RingEnd k w wx A1 C1 A2 C2 A3 C3 A4 C4 L)
      case first =>
        go_region_law (fail)
        all_goals
          go_wp2_with fail
          go_meet
          case rel =>
            exact FIN.out
      case rest =>
        clear c1 c2 c3 c4 g0 g1 g2 g3 h0 h1 h2 h3 SLX BEX
        obtain ⟨e0, e1, e2, e3, sl, bel⟩ := hcut
        obtain ⟨A1', C1', hv1, _, r1, _⟩ := rec_of_own (d := nd0) (c := cN) (fun _ => rfl) (by decide) (show wc.ownsRow (w.heap.size + 6) 93 3 (.slice A1 k C1) k ((nodesK k).flatMap cN) from sl.1 (sN k _) (by simp))
        obtain ⟨A2', C2', hv2, _, r2, _⟩ := rec_of_own (d := cb0) (c := cC) (fun _ => rfl) (by decide) (show wc.ownsRow (w.heap.size + 6) 47 6 (.slice A2 k C2) k ((cabsK k k).flatMap cC) from sl.1 (sC k k _) (by simp))
        obtain ⟨A3', C3', hv3, _, r3, _⟩ := rec_of_own (d := (0 : Int)) cI_length (by decide) (show wc.ownsRow (w.heap.size + 6) 3 1 (.slice A3 k C3) k ((lvsK k k).flatMap cI) from sl.1 (sL k k _) (by simp))
        obtain ⟨A4', C4', hv4, _, r4⟩ := isTab_of_slots (show wc.ownsRow (w.heap.size + 6) 97 2 (.slice A4 k C4) k (L.flatMap cF) from sl.1 (sT k _ L) (by simp)) (Slots.sub sl (((List.sublist_cons_self _ _).cons _).cons _ |>.cons _))
        injection hv1 with hv1
        injection hv2 with hv2
        injection hv3 with hv3
        injection hv4 with hv4
        subst hv1
        subst hv2
        subst hv3
        subst hv4
        rw [HLT.out] at r4
        have F : Hid (RingPost k w (.returned (.tuple #[.agg #[.slice A1 k C1, .slice A2 k C2], .agg #[.slice A3 k C3], .agg #[.slice A4 k C4]])) wc) := by
          refine ⟨A1, C1, A2, C2, A3, C3, A4, C4, rfl, ⟨?_, ?_⟩, r3, r4, bel⟩
          · have e : (ringP k).ns.length = k := by simp [ringP]
            rw [e]; exact r1
          · have e : (ringP k).cs.length = k := by simp [ringP]
            rw [e]; exact r2
        clear sl bel r1 r2 r3 r4
        go_wp2_with fail
        refine bodyPost_ret (v := .tuple #[.agg #[.slice A1 k C1, .slice A2 k C2], .agg #[.slice A3 k C3], .agg #[.slice A4 k C4]]) (by simp [results, Try.results24, go_sem, e0, e1, e2, e3]) rfl ?_
        exact F.out
end Go.Proofs.Ytlhblaemoejefaa
