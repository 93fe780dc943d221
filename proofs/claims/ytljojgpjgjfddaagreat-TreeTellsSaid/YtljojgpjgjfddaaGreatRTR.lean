/- The contract of the reference's Reached: the search through a tree, node by node. -/
import Derived.Test.YtljojgpjgjfddaaGreatRTA
import Derived.Deep.Cut
import Derived.Deep.CutRange
namespace Go.Proofs.YtljojgpjgjfddaaGreat
open Go.RowKit Go.Maps
set_option linter.unusedVariables false
set_option linter.unusedSimpArgs false

def nilI : Value := .slice none 0 0
def R2t (n : Nat) (w1 : World) (s8 s9 : Value) (wx : World) : Prop :=
  ∃ bP bS, s8 = .slice (some ⟨bP, 0, none⟩) n n ∧ s9 = .slice (some ⟨bS, 0, none⟩) n n ∧ bP ≠ bS ∧ w1.heap.size ≤ bP ∧ w1.heap.size ≤ bS ∧ bP < wx.heap.size ∧ bS < wx.heap.size ∧ RBlk wx bP 28 1 n (fun _ => [nilI]) ∧ RBlk wx bS 4 1 n (fun _ => [.bool false]) ∧ Below w1.heap.size w1 wx
/-- The search's state in memory: which nodes are seen, the walk to each, the queue. -/
structure RSt (n bP bS base : Nat) (seen : List Bool) (P : List (List Int)) (Q : List Nat) (vQ : Value) (wr : World) : Prop where
  sn : RBlk wr bS 4 1 n (fun i => [.bool (seen.getD i false)])
  pt : ∃ R : Nat → Option Addr × Nat, RBlk wr bP 28 1 n (fun i => [.slice (R i).1 (P.getD i []).length (R i).2]) ∧ ∀ i, i < n → IsRec 1 cI 0 wr (R i).1 (P.getD i []).length (P.getD i []) ∧ ∀ x, (R i).1 = some x → base ≤ x.block ∧ x.block < wr.heap.size ∧ vQ.ownBlock ≠ some x.block
  q : wr.ownsRow base 3 1 vQ Q.length ((Q.map fun v : Nat => (v : Int)).flatMap cI)
  pb : ∀ i, (P.getD i []).length ≤ Q.length
  lP : bP < base
  lS : bS < base
  ne : bP ≠ bS
/-- The world behind the round's walk: the new row t2 holds the walk to the node found. -/
def RgM (bP v : Nat) (pu : List Int) (o : Int) (wb wx : World) : Prop :=
  ∃ w6 t2, wx = w6.setCell ⟨bP, v, none⟩ t2 ∧ Below wb.heap.size wb w6 ∧ w6.ownsRow wb.heap.size 3 1 t2 (pu ++ [o]).length ((pu ++ [o]).flatMap cI)
def RelRo (n : Nat) (cs : List Cb) (out : List (List Int)) (s bP bS base : Nat) (w1 : World) (vQ i : Value) (wr : World) : Prop :=
  ∃ Q k seen P, i = .int .i64 (k : Nat) ∧ BS n cs out s Q k 0 seen P ∧ RSt n bP bS base seen P Q vQ wr ∧ Below w1.heap.size w1 wr ∧ base ≤ wr.heap.size
def RelRi (n : Nat) (cs : List Cb) (out : List (List Int)) (s bP bS base : Nat) (w1 : World) (i u : Nat) (vQ k : Value) (wr : World) : Prop :=
  ∃ Q m seen P, k = .int .i64 (m : Nat) ∧ i < Q.length ∧ Q.getD i 0 = u ∧ m ≤ (out.getD u []).length ∧ BS n cs out s Q i m seen P ∧ RSt n bP bS base seen P Q vQ wr ∧ Below w1.heap.size w1 wr ∧ base ≤ wr.heap.size
def RchPost (ns : List Nd) (cs : List Cb) (x : Tr) (s : Nat) (w : World) (e : Ending) (w' : World) : Prop :=
  Below w.heap.size w w' ∧ ((waysB ns cs x = false ∧ e = .returned (.tuple #[nilI, nilI, .bool false])) ∨
    ∃ bP bS Q seen P, e = .returned (.tuple #[.slice (some ⟨bP, 0, none⟩) ns.length ns.length, .slice (some ⟨bS, 0, none⟩) ns.length ns.length, .bool true]) ∧ BS ns.length cs x.out s Q Q.length 0 seen P ∧ IsRows w' (some ⟨bP, 0, none⟩) ns.length P ∧ IsRec 1 cB false w' (some ⟨bS, 0, none⟩) ns.length seen)
theorem nodup_lenR {α : Type} [DecidableEq α] {C S : List α} (h : C.Nodup) (hs : ∀ x ∈ C, x ∈ S) : C.length ≤ S.length := by
  induction C generalizing S with
  | nil => simp
  | cons x C ih =>
    obtain ⟨h1, h2⟩ := List.nodup_cons.1 h
    have hx := hs x (List.mem_cons_self ..)
    have h3 := ih (S := S.erase x) h2 (fun y hy => (List.mem_erase_of_ne (by rintro rfl; exact h1 hy)).2 (hs y (List.mem_cons_of_mem _ hy)))
    rw [List.length_erase_of_mem hx] at h3
    have := List.length_pos_of_mem hx
    simp; omega
theorem BS.qlen {n : Nat} {cs : List Cb} {out : List (List Int)} {s i k : Nat} {Q : List Nat} {seen : List Bool} {P : List (List Int)} (h : BS n cs out s Q i k seen P) : Q.length ≤ n := by
  have := nodup_lenR h.nd (S := List.range n) (fun x hx => List.mem_range.2 (h.lt x hx))
  simpa using this
theorem own_belowR {w w' : World} {base e m n : Nat} {v : Value} {xs : List Value} (h : w.ownsRow base e m v n xs) (hb : Below w.heap.size w w') : w'.ownsRow base e m v n xs := own_belowK h hb
theorem own_litR (w : World) (t : TypeId) (v : Value) {base : Nat} (hb : base ≤ w.heap.size) : (w.alloc (.cells #[v] t)).ownsRow base t 1 (.slice (some ⟨w.heap.size, 0, none⟩) 1 1) 1 [v] :=
  ⟨rfl, .inr ⟨w.heap.size, 1, #[v], rfl, hb, heap_alloc_new w _, Nat.le_refl _, by decide, rfl, rfl⟩⟩
theorem RSt.start {n s bP bS base : Nat} {w : World} (hs : s < n) (lP : bP < w.heap.size) (lS : bS < w.heap.size) (ne : bP ≠ bS) (hp : RBlk w bP 28 1 n (fun _ => [nilI])) (hS : RBlk w bS 4 1 n (fun _ => [.bool false])) (hb : base = w.heap.size) :
    RSt n bP bS base ((List.replicate n false).set s true) (List.replicate n []) [s] (.slice (some ⟨w.heap.size, 0, none⟩) 1 1) ((w.setCell ⟨bS, s, none⟩ (.bool true)).alloc (.cells #[.int .i64 (s : Int)] 3)) := by
  subst hb
  have hpn : ∀ i, (List.replicate n ([] : List Int)).getD i [] = [] := fun i => by
    by_cases h : i < n
    · simp [List.getD, h]
    · simp [List.getD, List.getElem?_eq_none (show (List.replicate n ([] : List Int)).length ≤ i by simp; omega)]
  have z : (w.setCell ⟨bS, s, none⟩ (.bool true)).heap.size = w.heap.size := by simp
  refine ⟨((hS.set1 hs (.bool true)).alloc _).congr fun i hi => ?_, ⟨fun _ => (none, 0), ((hp.far (p := ⟨bS, s, none⟩) ne _).alloc _).congr fun i hi => by simp only [hpn]; rfl, fun i hi => ⟨?_, fun x hx => (by cases hx)⟩⟩, ?_, fun i => by rw [hpn]; simp, lP, lS, ne⟩
  · unfold setR
    by_cases e : i = s
    · subst e; rw [if_pos rfl]; simp [List.getD, hi]
    · rw [if_neg e]
      have : ¬ s = i := fun q => e q.symm
      simp [List.getD, List.getElem?_set, this, hi]
  · rw [hpn]; exact IsRec.nil _
  · have := own_litR (w.setCell ⟨bS, s, none⟩ (.bool true)) 3 (.int .i64 (s : Int)) (base := w.heap.size) (by rw [z]; exact Nat.le_refl _)
    rw [z] at this
    exact this
theorem RSt.below {n bP bS base : Nat} {seen : List Bool} {P : List (List Int)} {Q : List Nat} {vQ : Value} {w w' : World} (h : RSt n bP bS base seen P Q vQ w) (hB : base ≤ w.heap.size) (hb : Below w.heap.size w w') : RSt n bP bS base seen P Q vQ w' := by
  obtain ⟨R, h1, h2⟩ := h.pt
  refine ⟨h.sn.below hb (by have := h.lS; omega), ⟨R, h1.below hb (by have := h.lP; omega), fun i hi => ?_⟩, own_belowR h.q hb, h.pb, h.lP, h.lS, h.ne⟩
  obtain ⟨q1, q2⟩ := h2 i hi
  exact ⟨q1.below (Nat.le_refl _) hb, fun x hx => by obtain ⟨a, b, c⟩ := q2 x hx; exact ⟨a, by have := hb.size; omega, c⟩⟩
theorem RSt.next {n bP bS base v : Nat} {seen : List Bool} {P : List (List Int)} {Q : List Nat} {vQ vQ' t2 : Value} {w w4 w6 : World} {L : List Int} {lit : Obj} (h : RSt n bP bS base seen P Q vQ w) (hB : base ≤ w.heap.size) (hsl : seen.length = n) (hpl : P.length = n) (hv : v < n)
    (h4 : Below w.heap.size (w.setCell ⟨bS, v, none⟩ (.bool true)) w4) (ht : w4.ownsRow w.heap.size 3 1 t2 L.length (L.flatMap cI)) (hL : L.length ≤ Q.length + 1)
    (ho : w6.ownsRow base 3 1 vQ' (Q.length + 1) ((Q.map fun y : Nat => (y : Int)).flatMap cI ++ [.int .i64 (v : Int)])) (hg : ((w4.setCell ⟨bP, v, none⟩ t2).alloc lit).grownBy w6 vQ.ownBlock) (hl : vQ'.ownBlock = vQ.ownBlock ∨ vQ'.ownBlock = some ((w4.setCell ⟨bP, v, none⟩ t2).alloc lit).heap.size) :
    RSt n bP bS base (seen.set v true) (P.set v L) (Q ++ [v]) vQ' w6 := by
  obtain ⟨R, h1, h2⟩ := h.pt
  obtain ⟨a2, c2, rfl, _, hr2, ha2⟩ := rec_of_own (d := (0 : Int)) cI_length (by decide) ht
  have lP := h.lP
  have lS := h.lS
  have z2 : (w.setCell ⟨bS, v, none⟩ (.bool true)).heap.size = w.heap.size := by simp
  have z4 : w.heap.size ≤ w4.heap.size := by have := h4.size; omega
  have z5 : ((w4.setCell ⟨bP, v, none⟩ (.slice a2 L.length c2)).alloc lit).heap.size = w4.heap.size + 1 := by simp
  have z6 := hg.size
  have hQ : ∀ g, vQ.ownBlock = some g → base ≤ g ∧ g < w.heap.size := fun g e => h.q.lt g e
  have gP : ∀ i, (P.set v L).getD i [] = if i = v then L else P.getD i [] := fun i => by
    by_cases e : i = v
    · subst e; rw [if_pos rfl]; simp [List.getD, show i < P.length by omega]
    · rw [if_neg e]
      have : ¬ v = i := fun q => e q.symm
      simp [List.getD, List.getElem?_set, this]
  have fresh : ∀ x : Addr, x.block < w4.heap.size + 1 → vQ.ownBlock ≠ some x.block → vQ'.ownBlock ≠ some x.block := fun x hx hne e => by
    rcases hl with e2 | e2
    · exact hne (by rw [← e2, e])
    · rw [z5] at e2
      rw [e2] at e
      injection e with e
      omega
  refine ⟨?_, ⟨fun i => if i = v then (a2, c2) else R i, ?_, fun i hi => ?_⟩, ?_, fun i => ?_, lP, lS, h.ne⟩
  · have q := ((((h.sn.set1 hv (.bool true)).below h4 (by omega)).far (p := ⟨bP, v, none⟩) (Ne.symm h.ne) (.slice a2 L.length c2)).alloc lit).grown hg (fun e => by have := hQ _ e.symm; omega)
    refine q.congr fun i hi => ?_
    unfold setR
    by_cases e : i = v
    · subst e; rw [if_pos rfl]; simp [List.getD, show i < seen.length by omega]
    · rw [if_neg e]
      have : ¬ v = i := fun q => e q.symm
      simp [List.getD, List.getElem?_set, this]
  · have q := (((((h1.far (p := ⟨bS, v, none⟩) h.ne (.bool true)).below h4 (by omega)).set1 hv (.slice a2 L.length c2))).alloc lit).grown hg (fun e => by have := hQ _ e.symm; omega)
    refine q.congr fun i hi => ?_
    unfold setR
    rw [gP]
    by_cases e : i = v
    · subst e; simp
    · simp only [if_neg e]
  · show IsRec 1 cI 0 w6 (if i = v then (a2, c2) else R i).1 ((P.set v L).getD i []).length ((P.set v L).getD i []) ∧ _
    rw [gP]
    by_cases e : i = v
    · rw [if_pos e, if_pos e]
      have hne : ∀ x, a2 = some x → w.heap.size ≤ x.block ∧ x.block < w4.heap.size := fun x hx => ⟨ha2 x hx, (ht.lt x.block (by rw [hx]; rfl)).2⟩
      refine ⟨((hr2.farT (p := ⟨bP, v, none⟩) (fun x hx => by have := hne x hx; show bP ≠ x.block; omega) _).alloc lit).grown hg (fun x hx e => by have := hne x hx; have := hQ _ e.symm; omega), fun x hx0 => ?_⟩
      have hx : a2 = some x := by simpa [e] using hx0
      have := hne x hx
      exact ⟨by omega, by omega, fresh x (by omega) (fun e => by have := hQ _ e; omega)⟩
    · rw [if_neg e, if_neg e]
      obtain ⟨q1, q2⟩ := h2 i hi
      have q3 := (q1.farT (p := ⟨bS, v, none⟩) (fun x hx => by have := (q2 x hx).1; show bS ≠ x.block; omega) (.bool true)).below (B := w.heap.size) (by rw [z2]; exact Nat.le_refl _) h4
      refine ⟨((q3.farT (p := ⟨bP, v, none⟩) (fun x hx => by have := (q2 x hx).1; show bP ≠ x.block; omega) _).alloc lit).grown hg (fun x hx e => (q2 x hx).2.2 e.symm), fun x hx0 => ?_⟩
      have hx : (R i).1 = some x := by simpa [e] using hx0
      obtain ⟨a, b, c⟩ := q2 x hx
      exact ⟨a, by omega, fresh x (by omega) c⟩
  · rw [List.length_append, List.map_append, List.flatMap_append]
    exact ho
  · rw [gP, List.length_append]
    have := h.pb i
    split
    · exact hL
    · rw [List.length_singleton]; omega
theorem RSt.qkept {n bP bS base v : Nat} {seen : List Bool} {P : List (List Int)} {Q : List Nat} {vQ : Value} {w w4 : World} (h : RSt n bP bS base seen P Q vQ w) (h4 : Below w.heap.size (w.setCell ⟨bS, v, none⟩ (.bool true)) w4) (t2 : Value) :
    (w4.setCell ⟨bP, v, none⟩ t2).ownsRow base 3 1 vQ Q.length ((Q.map fun y : Nat => (y : Int)).flatMap cI) := by
  have lP := h.lP
  have lS := h.lS
  have h1 := own_keptJ h.q (only_setCell (only_refl w (some bS)) (p := ⟨bS, v, none⟩) (.inl rfl) (.bool true)) (fun q e => by have := (h.q.lt q e).1; omega)
  have h2 := own_belowR h1 (by have z : (w.setCell ⟨bS, v, none⟩ (.bool true)).heap.size = w.heap.size := by simp
                               rw [z]; exact h4)
  exact own_keptJ h2 (only_setCell (only_refl w4 (some bP)) (p := ⟨bP, v, none⟩) (.inl rfl) t2) (fun q e => by have := (h.q.lt q e).1; omega)
theorem reads_newR (w : World) (t : TypeId) (v : Value) : Reads (w.alloc (.cells #[v] t)) (w.heap.size + 1) 1 (some ⟨w.heap.size, 0, none⟩) 1 [v] :=
  ⟨rfl, fun _ => ⟨_, rfl, by simp, fun q u hu => World.news_of_block (cs := #[v]) (t := t) (fr := (0, 0)) (heap_alloc_new w _) q u hu⟩⟩
theorem reads_oneR {w : World} {g B : Nat} {v : Value} (h : w.cell? ⟨g, 0, none⟩ = some v) (hg : g < B) : Reads w B 1 (some ⟨g, 0, none⟩) 1 [v] := by
  refine ⟨rfl, fun _ => ⟨_, rfl, hg, fun q u hu => ?_⟩⟩
  match q, hu with
  | 0, hu =>
    simp at hu
    subst hu
    simpa [Addr.add] using h
theorem cell_newR (w : World) (t : TypeId) (v : Value) : (w.alloc (.cells #[v] t)).cell? ⟨w.heap.size, 0, none⟩ = some v := by simp [go_sem]
set_option maxRecDepth 100000 in
set_option maxHeartbeats 8000000 in
theorem reached_any (ns : List Nd) (cs : List Cb) (x : Tr) (s : Nat) (An Ac aO aD : Option Addr) (cn cc cO cD : Nat) (w : World) (hv : validP ⟨ns, cs⟩ = 0) (hs : x.src = s) (hsn : s < ns.length) (hol : x.out.length = ns.length) (hrw : rowsOk cs x.out = true) (hx : SmallT x) (h : IsPlan w An Ac ⟨ns, cs⟩) (h2 : IsTree w aO aD x) :
    Calls Tryz.prog 62 #[.agg #[.slice An ns.length cn, .slice Ac cs.length cc], .agg #[.int .i64 x.src, .slice aO x.out.length cO, .slice aD x.del.length cD]] w (RchPost ns cs x s w) := by
  obtain ⟨n16, c32⟩ := valid_sizes hv
  rw [hs]
  obtain ⟨w1, hw1⟩ : ∃ w1 : World, (w.alloc (.cells #[.slice An ns.length cn, .slice Ac cs.length cc] 25)).alloc (.cells #[.int .i64 (s : Int), .slice aO x.out.length cO, .slice aD x.del.length cD] 61) = w1 := ⟨_, rfl⟩
  have BP1 : Hid (Blk w1 w.heap.size 25 #[.slice An ns.length cn, .slice Ac cs.length cc]) := by rw [Hid, ← hw1]; exact (Blk.new w _ _).alloc _
  have BX1 : Hid (Blk w1 (w.heap.size + 1) 61 #[.int .i64 (s : Int), .slice aO x.out.length cO, .slice aD x.del.length cD]) := by
    rw [Hid, ← hw1]; have := Blk.new (w.alloc (.cells #[.slice An ns.length cn, .slice Ac cs.length cc] 25)) 61 #[.int .i64 (s : Int), .slice aO x.out.length cO, .slice aD x.del.length cD]; simpa using this
  have BW : Hid (Below w.heap.size w w1) := by rw [Hid, ← hw1]; exact ((Below.refl _ _).alloc (Nat.le_refl _) _).alloc (by simp) _
  have H1 := Lib.hid (h.below (Nat.le_refl _) BW.out)
  have T1 := Lib.hid (h2.below (Nat.le_refl _) BW.out)
  have SZ1 : Hid (w1.heap.size = w.heap.size + 2) := by rw [Hid, ← hw1]; simp
  have KC : Hid (∀ w', Below w1.heap.size w1 w' → ((w'.cell? ⟨w.heap.size, 0, none⟩ = some (.slice An ns.length cn) ∧ w'.cell? ⟨w.heap.size, 1, none⟩ = some (.slice Ac cs.length cc)) ∧ (w'.cell? ⟨w.heap.size + 1, 0, none⟩ = some (.int .i64 (s : Int)) ∧ w'.cell? ⟨w.heap.size + 1, 1, none⟩ = some (.slice aO x.out.length cO))) ∧ Below w.heap.size w w') := fun w' hb => by
    have hp := BP1.out.below hb BP1.out.lt
    have hq := BX1.out.below hb BX1.out.lt
    exact ⟨⟨⟨by rw [hp.cell]; rfl, by rw [hp.cell]; rfl⟩, by rw [hq.cell]; rfl, by rw [hq.cell]; rfl⟩, BW.out.trans (hb.mono BW.out.size)⟩
  have HV := Lib.hid hv
  have HS := Lib.hid hs
  have HOL := Lib.hid hol
  have HRW := Lib.hid hrw
  have HX := Lib.hid hx
  have HW1 := Lib.hid hw1
  have hsi : (s : Int) < (ns.length : Int) := by omega
  obtain ⟨j0, hj0, hy0, hy1, hy2⟩ := info_parts infoInts
  obtain ⟨b0, hb0, hz0, hz1, hz2⟩ := info_parts infoBool
  obtain ⟨i0, hi0, hq0, hq1, hq2⟩ := info_parts infoInt
  have hmk1 : ∀ W : World, Sem.run Tryz.prog (Instr.makeSlice 54 (.int .i64 (ns.length : Int)) (.int .i64 (ns.length : Int))) W = .ok (.slice (some ⟨W.heap.size, 0, none⟩) ns.length ns.length) (W.alloc (.cells (madeCells #[.slice none 0 0] ns.length) 28)) := fun W => by
    have := run_make (P := Tryz.prog) W 54 28 j0 (.slice none 0 0) Tryz.underlying54 hj0 hy0 .i64 .i64 (ns.length : Int) (ns.length : Int) (by omega) (Int.le_refl _) (by rw [hy2]; omega) (by omega)
    rw [hy1] at this
    simp only [Int.toNat_natCast, Nat.mul_one] at this
    exact this
  have hmk2 : ∀ W : World, Sem.run Tryz.prog (Instr.makeSlice 26 (.int .i64 (ns.length : Int)) (.int .i64 (ns.length : Int))) W = .ok (.slice (some ⟨W.heap.size, 0, none⟩) ns.length ns.length) (W.alloc (.cells (madeCells #[.bool false] ns.length) 4)) := fun W => by
    have := run_make (P := Tryz.prog) W 26 4 b0 (.bool false) Tryz.underlying26 hb0 hz0 .i64 .i64 (ns.length : Int) (ns.length : Int) (by omega) (Int.le_refl _) (by rw [hz2]; omega) (by omega)
    rw [hz1] at this
    simp only [Int.toNat_natCast, Nat.mul_one] at this
    exact this
  have e1 := (KC.out w1 (Below.refl _ _)).1.1.1
  have MP : Hid (∀ W : World, RBlk (W.alloc (.cells (madeCells #[.slice none 0 0] ns.length) 28)) W.heap.size 28 1 ns.length (fun _ => [nilI])) := fun W => by
    have := RBlk.made W (m := 1) (n := ns.length) (t := 28) (z := #[.slice none 0 0]) rfl (by decide)
    rw [Nat.mul_one] at this
    exact this.congr fun i hi => rfl
  have MS : Hid (∀ W : World, RBlk (W.alloc (.cells (madeCells #[.bool false] ns.length) 4)) W.heap.size 4 1 ns.length (fun _ => [.bool false])) := fun W => by
    have := RBlk.made W (m := 1) (n := ns.length) (t := 4) (z := #[.bool false]) rfl (by decide)
    rw [Nat.mul_one] at this
    exact this.congr fun i hi => rfl
  clear h h2 hw1 hv hs hol hrw hx hj0 hy0 hy1 hy2 hb0 hz0 hz1 hz2
  go_enter Tryz.func62, Tryz.ntmps62
  go_upto_region 2 with fail
  rw [HW1.out]
  clear HW1
  go_cut [8, 9] from 15 (fun s8 s9 wx => R2t ns.length w1 s8 s9 wx)
  case first =>
    go_region
    all_goals
      go_wp2_with fail
      go_meet
      case rel =>
        obtain ⟨wa, hwa⟩ : ∃ wa : World, w1.alloc (.cells (madeCells #[.slice none 0 0] ns.length) 28) = wa := ⟨_, rfl⟩
        obtain ⟨wb, hwb⟩ : ∃ wb : World, w1.alloc (.cells (madeCells #[.bool false] ns.length) 4) = wb := ⟨_, rfl⟩
        have za : wa.heap.size = w1.heap.size + 1 := by rw [← hwa]; simp
        have zb : wb.heap.size = w1.heap.size + 1 := by rw [← hwb]; simp
        have ba : Below w1.heap.size w1 wa := by rw [← hwa]; exact (Below.refl _ _).alloc (Nat.le_refl _) _
        have bb : Below w1.heap.size w1 wb := by rw [← hwb]; exact (Below.refl _ _).alloc (Nat.le_refl _) _
        have pa : RBlk wa w1.heap.size 28 1 ns.length (fun _ => [nilI]) := by rw [← hwa]; exact MP.out w1
        have pb := MP.out wb
        have sa := MS.out wa
        have sb : RBlk wb w1.heap.size 4 1 ns.length (fun _ => [.bool false]) := by rw [← hwb]; exact MS.out w1
        rw [zb] at pb
        rw [za] at sa
        try rw [hwa]
        try rw [hwb]
        first
          | exact ⟨_, _, rfl, rfl, by omega, Nat.le_refl _, by omega, by show w1.heap.size < (wa.alloc _).heap.size; simp; omega, by show w1.heap.size + 1 < (wa.alloc _).heap.size; simp; omega, (pa.alloc _).drew, sa.drew, (ba.alloc (by omega) _).drew⟩
          | exact ⟨_, _, rfl, rfl, by omega, by omega, Nat.le_refl _, by show w1.heap.size + 1 < (wb.alloc _).heap.size; simp; omega, by show w1.heap.size < (wb.alloc _).heap.size; simp; omega, pb.drew, (sb.alloc _).drew, (bb.alloc (by omega) _).drew⟩
  case rest =>
    obtain ⟨bP, bS, rfl, rfl, hne, gP, gS, lP, lS, rP, rS, bel⟩ := hcut
    obtain ⟨⟨⟨_, _⟩, t0, t1⟩, _⟩ := (KC.out wc bel)
    have fz : wc.frozen? ⟨bS, s, none⟩ = false := rS.frozen _
    have cz : wc.cell? ⟨bS, s, none⟩ = some (.bool false) := by have := rS.cell (i := s) (j := 0) hsn (by omega); simpa using this
    obtain ⟨w4, hw4⟩ : ∃ w4 : World, (wc.setCell ⟨bS, s, none⟩ (.bool true)).alloc (.cells #[.int .i64 (s : Int)] 3) = w4 := ⟨_, rfl⟩
    have STR : Hid (RSt ns.length bP bS wc.heap.size ((List.replicate ns.length false).set s true) (List.replicate ns.length []) [s] (.slice (some ⟨wc.heap.size, 0, none⟩) 1 1) w4) := by
      rw [← hw4]; exact RSt.start hsn lP lS hne rP rS rfl
    have B4 : Hid (Below w1.heap.size w1 w4) := by rw [← hw4]; exact (bel.setCell gS _).alloc (by simp; exact bel.size) _
    have Z4 : Hid (wc.heap.size ≤ w4.heap.size) := by rw [Hid, ← hw4]; simp
    have t0b := (KC.out _ (bel.setCell gS (.bool true) (p := ⟨bS, s, none⟩))).1.2.1
    have ST : Hid (RelRo ns.length cs x.out s bP bS wc.heap.size w1 (.slice (some ⟨wc.heap.size, 0, none⟩) 1 1) (.int .i64 0) w4) := ⟨[s], 0, _, _, rfl, BS.start hsn, STR.out, B4.out, Z4.out⟩
    have HW4 := Lib.hid hw4
    clear hmk1 hmk2 MP MS e1 rP rS hw4
    go_wp2_with fail
    rw [HW4.out]
    clear t0 t1 t0b fz cz HW4 lP lS hne bel
    generalize wc.heap.size = base at *
    go_loopw [10, 11] (fun vQ i wr => RelRo ns.length cs x.out s bP bS base w1 vQ i wr) (fun _ i _ => ns.length + 1 - (RowKit.intOf i).toNat)
    case atStart => exact ST.out
    case round =>
      clear ST
      rename World => wo
      obtain ⟨Q, k, seen, P, rfl, hbs, hst, bel, hB⟩ := hrel
      have ql := hbs.qlen
      have il := hbs.il
      by_cases hk : k < Q.length
      · obtain ⟨gq, capq, hvq, hgq, hgql⟩ := hst.q.form (by omega)
        subst hvq
        have cq : wo.cell? ⟨gq, k, none⟩ = some (.int .i64 ((Q.getD k 0 : Nat) : Int)) := by rw [hst.q.cellAt k (by simpa using hk), cI_map]; simp [List.getD, hk]
        have hun : Q.getD k 0 < ns.length := hbs.lt _ (getD_mem hk)
        obtain ⟨u, hu⟩ : ∃ u, Q.getD k 0 = u := ⟨_, rfl⟩
        rw [hu] at cq hun
        obtain ⟨bO, oO, ar, cap, hO, hOl, hmem, hrow, hcell⟩ := T1.out.out.at_ u (by rw [HOL.out]; exact hun)
        have hxr : (x.out.getD u []).length ≤ 1000000 := HX.out.rl _ hmem
        have STI : Hid (RelRi ns.length cs x.out s bP bS base w1 k u (.slice (some ⟨gq, 0, none⟩) Q.length capq) (.int .i64 0) wo) := ⟨Q, 0, seen, P, rfl, hk, hu, Nat.zero_le _, hbs, hst, bel, hB⟩
        have ROW := Lib.hid hrow
        have KR : Hid (∀ w', Below w1.heap.size w1 w' → w'.cell? ⟨w.heap.size + 1, 1, none⟩ = some (.slice (some ⟨bO, oO, none⟩) x.out.length cO) ∧ w'.cell? ⟨bO, oO + u, none⟩ = some (.slice ar (x.out.getD u []).length cap)) := fun w' hb => ⟨by rw [(KC.out w' hb).1.2.2, hO], (hb.cell hOl).trans hcell⟩
        have HK := Lib.hid hk
        have HU := Lib.hid hu
        have k0 : (0 : Int) ≤ (k : Int) := by omega
        have kq : (k : Int) < (Q.length : Int) := by omega
        have k16 : k < 16 := by omega
        have uo : (u : Int) < (x.out.length : Int) := by have := HOL.out; omega
        clear hbs hst bel hB hrow hcell hmem hu hO
        go_wp2_with fail
        go_loopw [10, 13] (fun vQ m wr' => RelRi ns.length cs x.out s bP bS base w1 k u vQ m wr') (fun _ m _ => (x.out.getD u []).length - (RowKit.intOf m).toNat)
        case atStart => exact STI.out
        case round =>
          clear STI cq
          obtain ⟨Q2, m, seen2, P2, rfl, hk2, hu2, hm, hbs2, hst2, bel2, hB2⟩ := hrel
          have BE2 := Lib.hid bel2
          have ql2 := hbs2.qlen
          by_cases hmr : m < (x.out.getD u []).length
          · obtain ⟨rb, ro, har, hrb, hom, heo⟩ := int_at ROW.out m hmr
            obtain ⟨kk, hok, hkk, htouch, hvn⟩ := rows_touch HV.out HRW.out hom
            obtain ⟨v, hv⟩ : ∃ v, othN cs u kk = v := ⟨_, rfl⟩
            rw [hv] at htouch hvn
            have hov := otherR HV.out (getD_mem (d := cb0) hkk) htouch
            have OC : Hid (∀ w', Below w1.heap.size w1 w' → Calls Tryz.prog 67 #[.agg #[.slice An ns.length cn, .slice Ac cs.length cc], .int .i64 (kk : Int), .int .i64 (u : Int)] w' fun e w'' => e = .returned (.int .i64 (v : Int)) ∧ Below w'.heap.size w' w'') := fun w' hb => by
              have := Other17_any cs An Ac ns.length cn cc kk (u : Int) w' (by omega) (H1.out.below (Nat.le_refl _) hb).2 hkk
              rw [hov] at this
              exact this
            rw [hok] at heo
            have EO : Hid ((x.out.getD u []).getD m 0 = (kk : Int)) := hok
            have OV : Hid (othN cs u ((kk : Int)).toNat = v) := by rw [Hid, Int.toNat_natCast]; exact hv
            subst har
            have KS : Hid (∀ w', Below w1.heap.size w1 w' → w'.cell? ⟨w.heap.size, 0, none⟩ = some (.slice An ns.length cn) ∧ w'.cell? ⟨w.heap.size, 1, none⟩ = some (.slice Ac cs.length cc) ∧ w'.cell? ⟨w.heap.size + 1, 1, none⟩ = some (.slice (some ⟨bO, oO, none⟩) x.out.length cO) ∧ w'.cell? ⟨bO, oO + u, none⟩ = some (.slice (some ⟨rb, ro, none⟩) (x.out.getD u []).length cap) ∧ w'.cell? ⟨rb, ro + m, none⟩ = some (.int .i64 (kk : Int))) := fun w' hb => ⟨(KC.out w' hb).1.1.1, (KC.out w' hb).1.1.2, (KR.out w' hb).1, (KR.out w' hb).2, (hb.cell hrb).trans heo⟩
            obtain ⟨c0, c1, t1, r1, e1⟩ := KS.out wr bel2
            have mi : (m : Int) < ((x.out.getD u []).length : Int) := by omega
            have HBS := Lib.hid hbs2
            have HST := Lib.hid hst2
            have HU2 := Lib.hid hu2
            clear hbs2 hst2 hu2 bel2 hom heo hok hov htouch hv
            go_wp2_with fail
            go_region_held3 (fun w' => w'.cell? ⟨w.heap.size, 0, none⟩ = some (.slice An ns.length cn) ∧ w'.cell? ⟨w.heap.size, 1, none⟩ = some (.slice Ac cs.length cc) ∧ w'.cell? ⟨w.heap.size + 1, 1, none⟩ = some (.slice (some ⟨bO, oO, none⟩) x.out.length cO) ∧ w'.cell? ⟨bO, oO + u, none⟩ = some (.slice (some ⟨rb, ro, none⟩) (x.out.getD u []).length cap) ∧ w'.cell? ⟨rb, ro + m, none⟩ = some (.int .i64 (kk : Int)))
              (first | exact ⟨c0, c1, t1, r1, e1⟩ | exact KS.out _ BA.out)
              (first | (go_at_call 67; refine (OC.out _ (by repeat (first | exact BE2.out | refine Below.drew ?_))).mono ?_; rintro e wa ⟨rfl, bela⟩; have BA : Hid (Below w1.heap.size w1 wa) := BE2.out.drew.trans (bela.mono BE2.out.size); have BWA : Hid (Below wr.heap.size wr wa) := (Below.refl _ _).drew.trans bela; clear bela))
            all_goals
              have ST3 := Lib.hid (HST.out.below hB2 BWA.out)
              have hBa : base ≤ wa.heap.size := by have := BWA.out.size; omega
              have ca : wa.cell? ⟨bS, v, none⟩ = some (.bool (seen2.getD v false)) := by have := ST3.out.sn.cell (i := v) (j := 0) hvn (by omega); simpa using this
              have fS : wa.frozen? ⟨bS, v, none⟩ = false := ST3.out.sn.frozen v
              have vi : (v : Int) < (ns.length : Int) := by omega
              have ui : (u : Int) < (ns.length : Int) := by omega
              clear c0 c1 t1 r1 e1 OC
              cases hsv : seen2.getD v false with
              | true =>
                have hwf : waysB ns cs x = false := by
                  cases hw : waysB ns cs x with
                  | false => rfl
                  | true =>
                    obtain ⟨s', r, V⟩ := valid_tree hw
                    have := ways_src HS.out V
                    subst this
                    exact (HBS.out.twice V hk2 (o := (kk : Int)) (by rw [HU2.out]; exact hmr) (by rw [HU2.out]; exact EO.out) (by rw [HU2.out]; exact OV.out) hvn hsv).elim
                have F : Hid (RchPost ns cs x s w (.returned (.tuple #[.slice none 0 0, .slice none 0 0, .bool false])) wa) := ⟨(KC.out wa BA.out).2, .inl ⟨hwf, rfl⟩⟩
                rw [hsv] at ca
                clear hwf hsv
                go_wp2_with fail
                go_ret3
                exact F.out
              | false =>
                rw [hsv] at ca
                obtain ⟨R, hp, hr⟩ := ST3.out.pt
                obtain ⟨wb, hwb⟩ : ∃ wb : World, wa.setCell ⟨bS, v, none⟩ (.bool true) = wb := ⟨_, rfl⟩
                have zb : wb.heap.size = wa.heap.size := by rw [← hwb]; simp
                have BB : Hid (Below w1.heap.size w1 wb) := by rw [← hwb]; exact BA.out.setCell gS _
                have hpb : RBlk wb bP 28 1 ns.length (fun i => [.slice (R i).1 (P2.getD i []).length (R i).2]) := by rw [← hwb]; exact hp.far (p := ⟨bS, v, none⟩) HST.out.ne _
                have yu : wb.cell? ⟨bP, u, none⟩ = some (.slice (R u).1 (P2.getD u []).length (R u).2) := by have := hpb.cell (i := u) (j := 0) hun (by omega); simpa using this
                have RDU : Hid (Reads wb wb.heap.size 1 (R u).1 (P2.getD u []).length ((P2.getD u []).flatMap cI)) := by
                  obtain ⟨q1, q2⟩ := hr u hun
                  have q3 := q1.farT (p := ⟨bS, v, none⟩) (fun x hx => by have := (q2 x hx).1; have := HST.out.lS; show bS ≠ x.block; omega) (.bool true)
                  rw [hwb] at q3
                  exact reads_of_rec cI_length q3
                have pl : (P2.getD u []).length ≤ 16 := by have := HST.out.pb u; omega
                have PL := Lib.hid (HST.out.pb u)
                have lbP := HST.out.lP
                have KT : Hid (∀ w', Below wb.heap.size wb w' → (w'.cell? ⟨w.heap.size + 1, 1, none⟩ = some (.slice (some ⟨bO, oO, none⟩) x.out.length cO) ∧ w'.cell? ⟨bO, oO + u, none⟩ = some (.slice (some ⟨rb, ro, none⟩) (x.out.getD u []).length cap) ∧ w'.cell? ⟨rb, ro + m, none⟩ = some (.int .i64 (kk : Int))) ∧ RBlk w' bP 28 1 ns.length (fun i => [.slice (R i).1 (P2.getD i []).length (R i).2])) := fun w' hb => by
                  have := KS.out w' (BB.out.trans (hb.mono BB.out.size))
                  exact ⟨this.2.2, hpb.below hb (by omega)⟩
                obtain ⟨⟨t1, r1, e1⟩, _⟩ := KT.out wb (Below.refl _ _)
                have l1 : w.heap.size + 1 < wb.heap.size := by have := BB.out.size; have := SZ1.out; omega
                have l2 : bO < wb.heap.size := by have := BB.out.size; omega
                have l3 : rb < wb.heap.size := by have := BB.out.size; omega
                have l4 : bP < wb.heap.size := by omega
                have n1 : ¬ w.heap.size + 1 = wb.heap.size := by omega
                have n2 : ¬ bO = wb.heap.size := by omega
                have n3 : ¬ rb = wb.heap.size := by omega
                have n4 : ¬ bP = wb.heap.size := by omega
                obtain ⟨pu, hpu⟩ : ∃ pu, P2.getD u [] = pu := ⟨_, rfl⟩
                rw [hpu] at yu RDU pl PL
                generalize (R u).1 = a3 at yu RDU
                generalize (R u).2 = c3 at yu RDU
                have HPU := Lib.hid hpu
                clear hpu
                have HWB := Lib.hid hwb
                have ZB := Lib.hid zb
                have HSV := Lib.hid hsv
                clear hp hr hwb hpb zb hsv
                go_upto_region 16 with fail
                rw [HWB.out]
                go_cut [] from 67 to 85 (fun wx => RgM bP v pu (kk : Int) wb wx)
                case first =>
-- REGION
                  have OE1 : Hid ((wb.alloc (.cells #[] 3)).drew.ownsRow wb.heap.size 3 1 (.slice (some ⟨wb.heap.size, 0, none⟩) 0 0) 0 []) := (own_empty wb 3 1).drew
                  have OE2 : Hid (((wb.alloc (.cells #[] 3)).alloc (.cells #[.int .i64 (kk : Int)] 3)).drew.ownsRow wb.heap.size 3 1 (.slice (some ⟨wb.heap.size, 0, none⟩) 0 0) 0 []) := ((own_empty wb 3 1).alloc _).drew
                  have OE3 : Hid (((wb.alloc (.cells #[.int .i64 (kk : Int)] 3)).alloc (.cells #[] 3)).drew.ownsRow wb.heap.size 3 1 (.slice (some ⟨wb.heap.size + 1, 0, none⟩) 0 0) 0 []) := by
                    have z : (wb.alloc (.cells #[.int .i64 (kk : Int)] 3)).heap.size = wb.heap.size + 1 := by simp
                    have q := own_mono (own_empty (wb.alloc (.cells #[.int .i64 (kk : Int)] 3)) 3 1) (base' := wb.heap.size) (by omega)
                    rw [z] at q
                    exact q.drew
                  have Y1 : Hid (Below wb.heap.size wb (wb.alloc (.cells #[] 3)).drew) := ((Below.refl _ _).alloc (Nat.le_refl _) _).drew
                  have Y2 : Hid (Below wb.heap.size wb ((wb.alloc (.cells #[] 3)).alloc (.cells #[.int .i64 (kk : Int)] 3)).drew) := (((Below.refl _ _).alloc (Nat.le_refl _) _).alloc (by simp) _).drew
                  have Y3 : Hid (Below wb.heap.size wb ((wb.alloc (.cells #[.int .i64 (kk : Int)] 3)).alloc (.cells #[] 3)).drew) := (((Below.refl _ _).alloc (Nat.le_refl _) _).alloc (by simp) _).drew
                  have EK2 : Hid (((wb.alloc (.cells #[] 3)).alloc (.cells #[.int .i64 (kk : Int)] 3)).drew.cell? ⟨wb.heap.size + 1, 0, none⟩ = some (.int .i64 (kk : Int))) := by
                    have q := cell_newR (wb.alloc (.cells #[] 3)) 3 (.int .i64 (kk : Int))
                    have z : (wb.alloc (.cells #[] 3)).heap.size = wb.heap.size + 1 := by simp
                    rw [z] at q
                    exact q
                  have EK3 : Hid (((wb.alloc (.cells #[.int .i64 (kk : Int)] 3)).alloc (.cells #[] 3)).drew.cell? ⟨wb.heap.size, 0, none⟩ = some (.int .i64 (kk : Int))) := by
                    have q := cell_newR wb 3 (.int .i64 (kk : Int))
                    exact (World.cell?_alloc_lt (wb.alloc (.cells #[.int .i64 (kk : Int)] 3)) (.cells #[] 3) ⟨wb.heap.size, 0, none⟩ (by simp)).trans q
                  have RY : Hid (∀ Y, Below wb.heap.size wb Y → Reads Y wb.heap.size 1 a3 pu.length (pu.flatMap cI)) := fun Y hb => RDU.out.below hb
                  have A1 : Hid (∀ v5 w5, w5.ownsRow wb.heap.size 3 1 v5 (0 + pu.length) ([] ++ pu.flatMap cI) → (wb.alloc (.cells #[] 3)).drew.grownBy w5 (Value.slice (some ⟨wb.heap.size, 0, none⟩) 0 0).ownBlock → Below wb.heap.size wb w5) := fun v5 w5 _ g5 => Y1.out.grown g5 Y1.out.size (fun g e => by have e2 : some wb.heap.size = some g := e; injection e2 with e2; omega)
                  have A2 : Hid (∀ v5 w5, w5.ownsRow wb.heap.size 3 1 v5 (0 + pu.length) ([] ++ pu.flatMap cI) → ((wb.alloc (.cells #[] 3)).alloc (.cells #[.int .i64 (kk : Int)] 3)).drew.grownBy w5 (Value.slice (some ⟨wb.heap.size, 0, none⟩) 0 0).ownBlock → Below wb.heap.size wb w5 ∧ w5.cell? ⟨wb.heap.size + 1, 0, none⟩ = some (.int .i64 (kk : Int)) ∧ wb.heap.size + 1 < w5.heap.size) := fun v5 w5 _ g5 => ⟨Y2.out.grown g5 Y2.out.size (fun g e => by have e2 : some wb.heap.size = some g := e; injection e2 with e2; omega), (g5.cell_far ⟨wb.heap.size + 1, 0, none⟩ (by simp) (fun h => by have e2 : some (wb.heap.size + 1) = some wb.heap.size := h; injection e2 with e2; omega)).trans EK2.out, by have := g5.size; simp at this; omega⟩
                  have A3 : Hid (∀ v5 w5, w5.ownsRow wb.heap.size 3 1 v5 (0 + pu.length) ([] ++ pu.flatMap cI) → ((wb.alloc (.cells #[.int .i64 (kk : Int)] 3)).alloc (.cells #[] 3)).drew.grownBy w5 (Value.slice (some ⟨wb.heap.size + 1, 0, none⟩) 0 0).ownBlock → Below wb.heap.size wb w5 ∧ w5.cell? ⟨wb.heap.size, 0, none⟩ = some (.int .i64 (kk : Int)) ∧ wb.heap.size < w5.heap.size) := fun v5 w5 _ g5 => ⟨Y3.out.grown g5 Y3.out.size (fun g e => by have e2 : some (wb.heap.size + 1) = some g := e; injection e2 with e2; omega), (g5.cell_far ⟨wb.heap.size, 0, none⟩ (by simp; omega) (fun h => by have e2 : some wb.heap.size = some (wb.heap.size + 1) := h; injection e2 with e2; omega)).trans EK3.out, by have := g5.size; simp at this; omega⟩
                  go_region_law
                    (first
                      | (refine step_append_any _ (by rfl) (.tmp 69) (.tmp 73) 28 (by rfl) wb.heap.size 3 i0 _ 1 8 Tryz.underlying28 hi0 hq0 hq1 hq2 rfl (by decide) _ 0 [] (by rfl) (by exact OE1.out) wb.heap.size a3 pu.length c3 (pu.flatMap cI) (by rfl) (by exact RY.out _ Y1.out) (cI_one _) ?_ ?_ ?_ ?_
                         (unfold maxLen; omega)
                         omega
                         exact Y1.out.size
                         intro v5 w5 own5 gr5 loc5
                         have OWN5 := Lib.hid own5
                         have B5 := Lib.hid (A1.out _ _ own5 gr5)
                         obtain ⟨⟨t15, r15, e15⟩, _⟩ := KT.out w5 B5.out
                         have s5 := B5.out.size
                         have l15 : w.heap.size + 1 < w5.heap.size := by omega
                         have l25 : bO < w5.heap.size := by omega
                         have l35 : rb < w5.heap.size := by omega
                         have n15 : ¬ w.heap.size + 1 = w5.heap.size := by omega
                         have n25 : ¬ bO = w5.heap.size := by omega
                         have n35 : ¬ rb = w5.heap.size := by omega
                         clear own5 gr5 loc5)
                      | (refine step_append_any _ (by rfl) (.tmp 69) (.tmp 73) 28 (by rfl) wb.heap.size 3 i0 _ 1 8 Tryz.underlying28 hi0 hq0 hq1 hq2 rfl (by decide) _ 0 [] (by rfl) (by exact OE2.out) wb.heap.size a3 pu.length c3 (pu.flatMap cI) (by rfl) (by exact RY.out _ Y2.out) (cI_one _) ?_ ?_ ?_ ?_
                         (unfold maxLen; omega)
                         omega
                         exact Y2.out.size
                         intro v5 w5 own5 gr5 loc5
                         have OWN5 := Lib.hid own5
                         obtain ⟨b5, EL5, ll5⟩ := A2.out _ _ own5 gr5
                         have B5 := Lib.hid b5
                         clear b5
                         obtain ⟨⟨t15, r15, e15⟩, _⟩ := KT.out w5 B5.out
                         have s5 := B5.out.size
                         have l15 : w.heap.size + 1 < w5.heap.size := by omega
                         have l25 : bO < w5.heap.size := by omega
                         have l35 : rb < w5.heap.size := by omega
                         have n15 : ¬ w.heap.size + 1 = w5.heap.size := by omega
                         have n25 : ¬ bO = w5.heap.size := by omega
                         have n35 : ¬ rb = w5.heap.size := by omega
                         clear own5 gr5 loc5)
                      | (refine step_append_any _ (by rfl) (.tmp 69) (.tmp 73) 28 (by rfl) wb.heap.size 3 i0 _ 1 8 Tryz.underlying28 hi0 hq0 hq1 hq2 rfl (by decide) _ 0 [] (by rfl) (by exact OE3.out) wb.heap.size a3 pu.length c3 (pu.flatMap cI) (by rfl) (by exact RY.out _ Y3.out) (cI_one _) ?_ ?_ ?_ ?_
                         (unfold maxLen; omega)
                         omega
                         exact Y3.out.size
                         intro v5 w5 own5 gr5 loc5
                         have OWN5 := Lib.hid own5
                         obtain ⟨b5, EL5, ll5⟩ := A3.out _ _ own5 gr5
                         have B5 := Lib.hid b5
                         clear b5
                         obtain ⟨⟨t15, r15, e15⟩, _⟩ := KT.out w5 B5.out
                         have s5 := B5.out.size
                         have l15 : w.heap.size + 1 < w5.heap.size := by omega
                         have l25 : bO < w5.heap.size := by omega
                         have l35 : rb < w5.heap.size := by omega
                         have n15 : ¬ w.heap.size + 1 = w5.heap.size := by omega
                         have n25 : ¬ bO = w5.heap.size := by omega
                         have n35 : ¬ rb = w5.heap.size := by omega
                         clear own5 gr5 loc5)
                      | (refine step_append_any _ (by rfl) (.tmp 74) (.tmp 83) 28 (by rfl) wb.heap.size 3 i0 _ 1 8 Tryz.underlying28 hi0 hq0 hq1 hq2 rfl (by decide) _ _ _ (by rfl) (by first | exact OWN5.out | exact OWN5.out.alloc _ | exact (OWN5.out.alloc _).drew) _ _ 1 1 [.int .i64 (kk : Int)] (by rfl) (by first | exact reads_newR w5 3 _ | exact (reads_newR w5 3 _).drew | exact reads_oneR EL5 ll5) ?_ ?_ ?_ ?_ ?_; (intro y hy; simp at hy; subst hy; rfl); (unfold maxLen; omega); omega; (first | (simp; done) | (simp; omega) | omega); intro v6 w6 own6 gr6 loc6; have OWN6 := Lib.hid own6; have B6 : Hid (Below wb.heap.size wb w6) := (by first | exact B5.out.grown gr6 B5.out.size (fun g e => (OWN5.out.lt g e).1) | exact (B5.out.alloc B5.out.size _).grown gr6 (by simp; omega) (fun g e => (OWN5.out.lt g e).1) | exact ((B5.out.alloc B5.out.size _).drew).grown gr6 (by simp; omega) (fun g e => (OWN5.out.lt g e).1))
                         obtain ⟨b6, q6, hv6⟩ := ownsRow_pos (by omega) own6
                         subst hv6
                         obtain ⟨_, p6⟩ := KT.out w6 B6.out
                         have f6 : w6.frozen? ⟨bP, v, none⟩ = false := p6.frozen v
                         obtain ⟨z6, y6⟩ : ∃ z6, w6.cell? ⟨bP, v, none⟩ = some z6 := (by have := p6.cell (i := v) (j := 0) hvn (by omega); exact ⟨_, by simpa using this⟩)
                         have l46 := p6.lt
                         clear own6 gr6 loc6 p6))
                  all_goals
                    go_wp2_with fail
                    go_meet
                    case rel => exact ⟨w6, _, rfl, B6.out, by have q := OWN6.out; rw [List.length_append, List.flatMap_append]; simpa [cI] using q⟩
-- END REGION
                case rest =>
                  obtain ⟨w6, t2, rfl, b6, own6⟩ := hcut
                  obtain ⟨w7, hw7⟩ : ∃ w7 : World, w6.setCell ⟨bP, v, none⟩ t2 = w7 := ⟨_, rfl⟩
                  have z7 : w7.heap.size = w6.heap.size := by rw [← hw7]; simp
                  have H4 : Hid (Below wa.heap.size (wa.setCell ⟨bS, v, none⟩ (.bool true)) w6) := by rw [Hid, HWB.out, ← ZB.out]; exact b6
                  have QK : Hid (w7.ownsRow base 3 1 u10 Q2.length ((Q2.map fun y : Nat => (y : Int)).flatMap cI)) := by rw [Hid, ← hw7]; exact ST3.out.qkept H4.out t2
                  have B7 : Hid (Below w1.heap.size w1 w7) := by rw [Hid, ← hw7]; exact (BB.out.trans (b6.mono BB.out.size)).setCell gP t2
                  have S7 : Hid (base ≤ w7.heap.size) := by have := b6.size; have := ZB.out; show base ≤ w7.heap.size; omega
                  have OWN6 : Hid (w6.ownsRow wa.heap.size 3 1 t2 (pu ++ [(kk : Int)]).length ((pu ++ [(kk : Int)]).flatMap cI)) := by rw [ZB.out] at own6; exact own6
                  have OQ : Hid (∀ q, u10.ownBlock = some q → base ≤ q) := fun q e => (ST3.out.q.lt q e).1
                  have BN := HBS.out.step hk2 (o := (kk : Int)) (by rw [HU2.out]; exact hmr) (by rw [HU2.out]; exact EO.out) (v := v) (by rw [HU2.out]; exact OV.out) hvn HSV.out
                  rw [HU2.out, HPU.out] at BN
                  have BNH := Lib.hid BN
                  have GU : Hid ((Q2 ++ [v]).getD k 0 = u) := by rw [Hid, ← HU2.out]; simp [List.getD, List.getElem?_append_left hk2]
                  have HW7 := Lib.hid hw7
                  have Z7 := Lib.hid z7
                  have B6 := Lib.hid b6
                  rw [hw7]
                  clear hw7 b6 own6 BN z7 t1 r1 e1 yu ca fS l1 l2 l3 l4 n1 n2 n3 n4 KT
                  go_wp2_with (at_builtin; refine wpList_append_any _ rfl (.tmp 86) (.tmp 88) 28 rfl base 3 i0 _ 1 8 Tryz.underlying28 hi0 hq0 hq1 hq2 rfl (by decide) _ _ _ rfl (QK.out.alloc _) (w7.heap.size + 1) (some ⟨w7.heap.size, 0, none⟩) 1 1 [.int .i64 (v : Int)] rfl (reads_newR w7 3 _) ?e2 ?e3 ?e4 ?e5 ?_)
                  case e2 => intro y hy; simp at hy; subst hy; rfl
                  case e3 => unfold maxLen; omega
                  case e4 => omega
                  case e5 => have := S7.out; simp; omega
                  intro v' w8 own8 gr8 loc8
                  have RN : RSt ns.length bP bS base (seen2.set v true) (P2.set v (pu ++ [(kk : Int)])) (Q2 ++ [v]) v' w8 :=
                    ST3.out.next hBa HBS.out.sl HBS.out.pl hvn H4.out OWN6.out (by have := PL.out; rw [List.length_append, List.length_singleton]; omega) own8 (by rw [HW7.out]; exact gr8) (by rw [HW7.out]; simpa using loc8)
                  have R' : RelRi ns.length cs x.out s bP bS base w1 k u v' (.int .i64 ((m + 1 : Nat) : Int)) w8 :=
                    ⟨Q2 ++ [v], m + 1, _, _, rfl, by rw [List.length_append]; omega, GU.out, by omega, BNH.out, RN, (B7.out.alloc B7.out.size _).grown gr8 (by have := B7.out.size; simp; omega) (fun q e => by have := OQ.out q e; have := lbP; omega), by have h7 := S7.out; have h8 := gr8.size; simp at h8; omega⟩
                  clear own8 gr8 loc8 RN
                  go_wp2
                  exact ⟨by simpa using R', by simp [RowKit.intOf]; omega⟩
          · have hme : m = (x.out.getD u []).length := by omega
            have RO : Hid (RelRo ns.length cs x.out s bP bS base w1 u10 (.int .i64 ((k + 1 : Nat) : Int)) wr) := ⟨Q2, k + 1, seen2, P2, rfl, hbs2.row hk2 (by rw [hu2]; exact hme), hst2, bel2, hB2⟩
            obtain ⟨t1, r1⟩ := KR.out wr bel2
            subst hme
            clear hbs2 hst2 bel2 hu2 ROW KR
            go_wp2_with fail
            exact ⟨by simpa using RO.out, by simp [RowKit.intOf]; omega⟩
      · obtain rfl : k = Q.length := by omega
        obtain ⟨R, hp, hr⟩ := hst.pt
        have F : Hid (RchPost ns cs x s w (.returned (.tuple #[.slice (some ⟨bP, 0, none⟩) ns.length ns.length, .slice (some ⟨bS, 0, none⟩) ns.length ns.length, .bool true])) wo) :=
          ⟨(KC.out wo bel).2, .inr ⟨bP, bS, Q, seen, P, rfl, hbs, ⟨hbs.pl, fun _ => ⟨bP, 0, rfl, hp.lt, fun i hi => ⟨(R i).1, (R i).2, (hr i hi).1, by rw [Nat.zero_add]; have q := hp.cell (i := i) (j := 0) hi (by omega); simpa using q⟩⟩⟩, hst.sn.isRec hbs.sl (fun i hi => rfl)⟩⟩
        obtain ⟨aq, cq, hvq, _⟩ := rec_of_own (d := (0 : Int)) cI_length (by decide) hst.q
        subst hvq
        clear hbs hst bel hB hp hr
        go_wp2_with fail
        go_ret3
        exact F.out
end Go.Proofs.YtljojgpjgjfddaaGreat
