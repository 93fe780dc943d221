/- Several texts in one: TCopy, TSp. -/
import Derived.Test.YtljojgpjgjfddaaTMkS
import Derived.Test.YtljojgpjgjfddaaTRows
import Derived.Deep.RegionLaw
import Derived.Test.YtljojgpjgjfddaaTDep

/- The contracts of slices.Clone and slices.Sort at ints, and of the closure of TreeSpoilt that copies a tree: rows of its own. -/
namespace Go.Proofs.Ytljojgpjgjfddaa
open Go.RowKit Go.Maps Go.Sort Go.Shelf
set_option linter.unusedVariables false
set_option linter.unusedSimpArgs false

theorem own_emptyC (w : World) (e size : Nat) : (w.alloc (.cells #[] e)).ownsRow w.heap.size e size (.slice (some ⟨w.heap.size, 0, none⟩) 0 0) 0 [] :=
  ⟨by simp, .inr ⟨w.heap.size, 0, #[], rfl, Nat.le_refl _, heap_alloc_new w _, Nat.le_refl _, by unfold maxLen; omega, by simp, by simp⟩⟩
theorem infoIntC : (Try.prog.info? 3).map (fun i => (i.zero, i.size, i.bytes)) = some (some (.int .i64 0), 1, 8) := by kernel_rfl
theorem cI_oneC (l : List Int) : ∀ u ∈ l.flatMap cI, u.oneCell' = true := by
  intro u hu
  obtain ⟨x, _, hx⟩ := List.mem_flatMap.1 hu
  simp [cI] at hx
  rw [hx]; rfl
set_option maxHeartbeats 1000000 in
theorem cloneC_any (a : Option Addr) (c : Nat) (l : List Int) (w : World) (hl : l.length ≤ 1000000) (h : IsRec 1 cI 0 w a l.length l) :
    Calls Try.prog 35 #[.slice a l.length c] w (IntsPost l w) := by
  have hnil : ∀ (w : World) (a : Option Addr) (n c n' c' : Nat), (binOp .eql 35 (.slice a n c) (.slice none n' c')).run Try.prog w = .ok (.bool a.isNone) w := fun w a n c n' c' => Lib.run_eql_slice_nil w 35 3 a n c n' c' Try.underlying35
  cases a with
  | none =>
    obtain rfl : l = [] := by
      rcases Nat.eq_zero_or_pos l.length with q | q
      · exact List.eq_nil_of_length_eq_zero q
      · obtain ⟨b, off, e, _⟩ := h.2 q
        cases e
    have F : Hid (IntsPost [] w (.returned (.slice none 0 0)) w) := ⟨_, rfl, World.ownsRow_nil _ _ _ _, Below.refl _ _⟩
    clear h
    go_enter Try.func35, Try.ntmps35
    go_wp2_with fail
    go_ret
    exact F.out
  | some ad =>
    have RA := Lib.hid ((reads_of_rec cI_length h).alloc (Nat.le_refl _) (.cells #[] 3))
    have fo := Lib.hid (cI_oneC l)
    clear h
    obtain ⟨i0, hi0, hz0, hz1, hz2⟩ := info_parts infoIntC
    go_enter Try.func35, Try.ntmps35
    go_wp2_with (at_builtin; refine wpList_append_any _ rfl (.tmp 5) (.tmp 6) 35 rfl w.heap.size 3 i0 _ 1 8 Try.underlying35 hi0 hz0 hz1 hz2 rfl (by decide) _ 0 [] rfl (own_emptyC w 3 1) w.heap.size _ l.length c (l.flatMap cI) rfl RA.out fo.out ?c3 ?c4 ?c5 ?_)
    case c3 => unfold maxLen; omega
    case c4 => omega
    case c5 => simp
    intro v1 w1 own1 gr1 _
    try simp only [Nat.zero_add, List.nil_append] at own1
    have bel : Hid (Below w.heap.size w w1) := ((Below.refl _ _).alloc (Nat.le_refl _) _).grown gr1 (by simp) (by intro g e; simp [Value.ownBlock] at e; omega)
    have F : Hid (IntsPost l w (.returned v1) w1) := ⟨v1, rfl, own1, bel.out⟩
    clear own1 gr1
    go_wp2_with fail
    go_ret
    exact F.out
/-- slices.Sort at ints: the same slice owns the sorted list. -/
theorem sortC_any (base : Nat) (v : Value) (l : List Int) (w : World) (hl : l.length ≤ 1000000) (h : w.ownsRow base 3 1 v l.length (l.flatMap cI)) :
    Calls Try.prog 36 #[v] w fun e w' => e = .returned (.tuple #[]) ∧ w'.ownsRow base 3 1 v l.length ((l.mergeSort leI).flatMap cI) ∧ w.grownBy w' v.ownBlock := by
  rcases h.2 with ⟨hv, hz⟩ | ⟨g, cap, cur, hv, hbase, hgb, r1, r2, r3, r4⟩
  · have hll : l = [] := List.eq_nil_of_length_eq_zero hz
    subst hll
    subst hv
    refine (AnyM.slices_Sort_int_none Try.sortA none 0 w).mono ?_
    rintro e w' ⟨rfl, rfl⟩
    exact ⟨rfl, by simpa using h, only_refl _ _⟩
  · subst hv
    have r4' : cur.toList.take l.length = l.map encZ := by rw [cI_map] at r4; simpa using r4
    have hH : Holds encZ w g 0 l.toArray := holds_of_block_i hgb r4'
    have hgl : g < w.heap.size := (Array.getElem?_eq_some_iff.1 hgb).1
    refine (AnyM.slices_Sort_int Try.sortA g 0 cap l w hH hgl (by omega)).mono ?_
    rintro e w' ⟨rfl, nn, os, rfl⟩
    refine ⟨rfl, ?_, grownBy_sorted_i _⟩
    rw [cI_map]
    exact ownsRow_sorted_i (by rw [List.length_mergeSort]) hbase hgb r1 r2 r3
def apartV (v v' : Value) : Prop := ∀ g, v.ownBlock = some g → v'.ownBlock ≠ some g
theorem apartV.symm {v v' : Value} (h : apartV v v') : apartV v' v := fun g e e' => h g e' e
theorem own_keptR {w w' : World} {base e m n : Nat} {v : Value} {xs : List Value} {row : Option Nat} (h : w.ownsRow base e m v n xs) (hg : w.grownBy w' row) (hr : ∀ g, v.ownBlock = some g → row ≠ some g) : w'.ownsRow base e m v n xs :=
  h.kept hg (by cases q : v.ownBlock with
    | none => exact .inl rfl
    | some g => exact .inr (fun e => hr g q e.symm))
/-- A copied tree: its deliveries, its slice of rows, each row, in blocks of their own. -/
structure CPt (w : World) (base : Nat) (vD : Value) (del : List Int) (vO : Value) (k : Nat) (V : Nat → Value) (R : Nat → List Int) : Prop where
  d : w.ownsRow base 3 1 vD del.length (del.flatMap cI)
  o : w.ownsRow base 35 1 vO k ((List.range k).map V)
  r : ∀ i, i < k → w.ownsRow base 3 1 (V i) (R i).length ((R i).flatMap cI)
  ado : apartV vD vO
  adr : ∀ i, i < k → apartV vD (V i)
  aor : ∀ i, i < k → apartV vO (V i)
  arr : ∀ i j, i < k → j < k → i ≠ j → apartV (V i) (V j)
section
variable {w w' : World} {base k : Nat} {vD vO : Value} {del : List Int} {V : Nat → Value} {R : Nat → List Int}
theorem CPt.kept {row : Option Nat} (h : CPt w base vD del vO k V R) (hg : w.grownBy w' row) (hD : ∀ g, vD.ownBlock = some g → row ≠ some g) (hO : ∀ g, vO.ownBlock = some g → row ≠ some g) (hR : ∀ i, i < k → ∀ g, (V i).ownBlock = some g → row ≠ some g) : CPt w' base vD del vO k V R :=
  ⟨own_keptR h.d hg hD, own_keptR h.o hg hO, fun i hi => own_keptR (h.r i hi) hg (hR i hi), h.ado, h.adr, h.aor, h.arr⟩
theorem CPt.below (h : CPt w base vD del vO k V R) (hb : Below w.heap.size w w') : CPt w' base vD del vO k V R :=
  h.kept (only_of_below hb none) (fun g _ e => by cases e) (fun g _ e => by cases e) (fun i _ g _ e => by cases e)
theorem CPt.alloc (h : CPt w base vD del vO k V R) (o : Obj) : CPt (w.alloc o) base vD del vO k V R := h.below ((Below.refl _ _).alloc (Nat.le_refl _) _)
theorem CPt.far (h : CPt w base vD del vO k V R) {p : Addr} (hp : p.block < base) (u : Value) : CPt (w.setCell p u) base vD del vO k V R := by
  obtain ⟨pb, po, pp⟩ := p
  have hg : w.grownBy (w.setCell ⟨pb, po, pp⟩ u) (some pb) := only_setCell (only_refl w _) (.inl rfl) u
  simp only at hp
  refine h.kept hg (fun g e e2 => ?_) (fun g e e2 => ?_) (fun i hi g e e2 => ?_)
  · injection e2 with e2; have := (h.d.lt g e).1; omega
  · injection e2 with e2; have := (h.o.lt g e).1; omega
  · injection e2 with e2; have := ((h.r i hi).lt g e).1; omega
theorem CPt.push (h : CPt w base vD del vO k V R) {w1 w2 : World} {v vO' : Value} {xs : List Value} (hxs : xs = (List.range k).map V ++ [v]) (hv : w1.ownsRow w.heap.size 3 1 v (R k).length ((R k).flatMap cI)) (hb : Below w.heap.size w w1) (hbase : base ≤ w.heap.size)
    (ho : w2.ownsRow base 35 1 vO' (k + 1) xs) (hg : w1.grownBy w2 vO.ownBlock) (hf : vO'.ownBlock = vO.ownBlock ∨ ∃ q, vO'.ownBlock = some q ∧ w1.heap.size ≤ q) : CPt w2 base vD del vO' (k + 1) (upd1 V k v) R := by
  subst hxs
  have h1 := h.below hb
  have lv : ∀ g, v.ownBlock = some g → w.heap.size ≤ g ∧ g < w1.heap.size := fun g e => hv.lt g e
  have lD : ∀ g, vD.ownBlock = some g → base ≤ g ∧ g < w.heap.size := fun g e => h.d.lt g e
  have lO : ∀ g, vO.ownBlock = some g → base ≤ g ∧ g < w.heap.size := fun g e => h.o.lt g e
  have lR : ∀ i, i < k → ∀ g, (V i).ownBlock = some g → base ≤ g ∧ g < w.heap.size := fun i hi g e => (h.r i hi).lt g e
  have hO' : ∀ g, vO'.ownBlock = some g → vO.ownBlock = some g ∨ w1.heap.size ≤ g := fun g e => by
    rcases hf with q | ⟨q, q1, q2⟩
    · exact .inl (by rw [← q]; exact e)
    · rw [q1] at e; injection e with e; exact .inr (by omega)
  have hz := hb.size
  have rng : (List.range (k + 1)).map (upd1 V k v) = (List.range k).map V ++ [v] := by
    rw [List.range_succ, List.map_append, List.map_cons, List.map_nil, upd1_same]
    congr 1
    exact List.map_congr_left fun i hi => upd1_other V v (by have := List.mem_range.1 hi; omega)
  have old : ∀ i, i < k + 1 → i ≠ k → i < k := fun i hi hne => by omega
  refine ⟨own_keptR h1.d hg (fun g e e2 => h.ado g e e2), by rw [rng]; exact ho, fun i hi => ?_, fun g e e2 => ?_, fun i hi g e e2 => ?_, fun i hi g e e2 => ?_, fun i j hi hj hne g e e2 => ?_⟩
  · by_cases q : i = k
    · subst q
      rw [upd1_same]
      refine own_keptR (own_mono hv hbase) hg (fun g e e2 => ?_)
      have a := lv g e
      have b := lO g e2
      omega
    · rw [upd1_other V v q]
      exact own_keptR (h1.r i (old i hi q)) hg (fun g e e2 => h.aor i (old i hi q) g e2 e)
  · rcases hO' g e2 with q | q
    · exact h.ado g e q
    · have := lD g e; omega
  · by_cases q : i = k
    · subst q
      rw [upd1_same] at e2
      have a := lD g e
      have b := lv g e2
      omega
    · rw [upd1_other V v q] at e2
      exact h.adr i (old i hi q) g e e2
  · by_cases q : i = k
    · subst q
      rw [upd1_same] at e2
      have b := lv g e2
      rcases hO' g e with a | a
      · have := lO g a; omega
      · omega
    · rw [upd1_other V v q] at e2
      rcases hO' g e with a | a
      · exact h.aor i (old i hi q) g a e2
      · have := lR i (old i hi q) g e2; omega
  · by_cases q : i = k
    · subst q
      rw [upd1_same] at e
      rw [upd1_other V v (fun q => hne q.symm)] at e2
      have a := lv g e
      have b := lR j (old j hj (fun q => hne q.symm)) g e2
      omega
    · rw [upd1_other V v q] at e
      by_cases q2 : j = k
      · subst q2
        rw [upd1_same] at e2
        have a := lv g e2
        have b := lR i (old i hi q) g e
        omega
      · rw [upd1_other V v q2] at e2
        exact h.arr i j (old i hi q) (old j hj q2) hne g e e2
end
theorem own_belowK' {w w' : World} {base e m n : Nat} {v : Value} {xs : List Value} (h : w.ownsRow base e m v n xs) (hb : Below w.heap.size w w') : w'.ownsRow base e m v n xs := own_keptR h (only_of_below hb none) (fun g _ e => by cases e)
theorem reads_newC (w : World) (t : TypeId) (v : Value) : Reads (w.alloc (.cells #[v] t)) (w.heap.size + 1) 1 (some ⟨w.heap.size, 0, none⟩) 1 [v] :=
  ⟨rfl, fun _ => ⟨_, rfl, by simp, fun q u hu => World.news_of_block (cs := #[v]) (t := t) (fr := (0, 0)) (heap_alloc_new w _) q u hu⟩⟩
theorem call1_run {P : Program} {a : Act} {w : World} {o : Oper} {x : Operand} {f : FuncId} {ts : Array TypeId} {v : Value} (hE : ∀ args w, (callFunc f args).run P w = .ok (.enter f args) w)
    (ho : o.op = Op.call { callee := Callee.value (Operand.func f), args := #[x], argTypes := ts }) (hx : a.eval x = v) : (execOp a.eval o).run P w = .ok (.enter f #[v]) w := by
  simp [execOp, ho, resolve, invoke, hE, go_sem]
  simpa [go_sem] using hx
/-- A call of a Go function of one argument as one step of a region that draws. -/
theorem step_call1 {P : Program} {ops : Array Oper} {o : Oper} {a : Act} {w : World} {K : Act → World → Prop} {Q : Exit → Act → World → Prop} {E : Prop} (hg : o.guard = none) {x : Operand} {f : FuncId} {ts : Array TypeId} {v : Value} (hE : ∀ args w, (callFunc f args).run P w = .ok (.enter f args) w)
    (ho : o.op = Op.call { callee := Callee.value (Operand.func f), args := #[x], argTypes := ts }) (hx : a.eval x = v) {Post : Ending → World → Prop}
    (hc : Calls P f #[v] w Post) (hK : ∀ e w', Post e w' → ∃ r, e = .returned r ∧ K (a.put o.dst r) w') : if Region.wanted o (yielded ops a.tmps) = true then Oper.wp P o a w K Q else E := by
  have hw : Region.wanted o (yielded ops a.tmps) = true := by simp [Region.wanted, hg]
  rw [if_pos hw]
  unfold Oper.wp
  rw [call1_run hE ho hx]
  exact hc.mono fun e w' h => by
    obtain ⟨r, rfl, hk⟩ := hK e w' h
    exact hk
def CopyPost (x : Tr) (w : World) (e : Ending) (w' : World) : Prop :=
  ∃ vD vO V, e = .returned (.agg #[.int .i64 x.src, vO, vD]) ∧ CPt w' (w.heap.size + 1) vD x.del vO x.out.length V (fun i => x.out.getD i []) ∧ Below w.heap.size w w'
def RgC (x : Tr) (w1 : World) (s2 : Value) (wx : World) : Prop :=
  ∃ g2 vD, s2 = .pointer (some ⟨g2, 0, none⟩) ∧ Blk wx g2 61 #[.int .i64 x.src, .slice none 0 0, vD] ∧ wx.ownsRow w1.heap.size 3 1 vD x.del.length (x.del.flatMap cI) ∧ vD.ownBlock ≠ some g2 ∧ w1.heap.size ≤ g2 ∧ Below w1.heap.size w1 wx
theorem own3 {w : World} {base e m n g : Nat} {v : Value} {xs : List Value} (h : w.ownsRow base e m v n xs) (hne : v.ownBlock ≠ some g) (v0 v1 v2 : Value) : (((w.setCell ⟨g, 0, none⟩ v0).setCell ⟨g, 1, none⟩ v1).setCell ⟨g, 2, none⟩ v2).ownsRow base e m v n xs := by
  have st : ∀ {w : World} (i : Nat) (u : Value), w.ownsRow base e m v n xs → (w.setCell ⟨g, i, none⟩ u).ownsRow base e m v n xs := fun i u h =>
    own_keptR h (only_setCell (only_refl _ _) (.inl rfl) u) (fun q e e2 => hne (by rw [e, e2]))
  exact st 2 v2 (st 1 v1 (st 0 v0 h))
def CyI (x : Tr) (g2 : Nat) (vD : Value) (base k : Nat) (wr : World) : Prop :=
  ∃ vO V, Blk wr g2 61 #[.int .i64 x.src, vO, vD] ∧ CPt wr base vD x.del vO k V (fun i => x.out.getD i []) ∧ vD.ownBlock ≠ some g2 ∧ vO.ownBlock ≠ some g2 ∧ (∀ i, i < k → (V i).ownBlock ≠ some g2)
def RelCy (x : Tr) (g2 : Nat) (vD : Value) (w1 : World) (i : Value) (wr : World) : Prop :=
  ∃ k : Nat, k ≤ x.out.length ∧ i = .int .i64 k ∧ CyI x g2 vD w1.heap.size k wr ∧ Below w1.heap.size w1 wr
theorem infoIntsC : (Try.prog.info? 35).map (fun i => (i.zero, i.size, i.bytes)) = some (some (.slice none 0 0), 1, 24) := by kernel_rfl
set_option maxRecDepth 100000 in
set_option maxHeartbeats 4000000 in
theorem copied_any (x : Tr) (bX : Nat) (aO aD : Option Addr) (cO cDl : Nat) (w : World) (hx : SmallT x) (hol : x.out.length ≤ 1000) (hXB : Blk w bX 61 #[.int .i64 x.src, .slice aO x.out.length cO, .slice aD x.del.length cDl]) (hT : IsTree w aO aD x) :
    Calls Try.prog 34 #[.pointer (some ⟨bX, 0, none⟩)] w (CopyPost x w) := by
  obtain ⟨w1, hw1⟩ : ∃ w1 : World, w.alloc (.cells #[.int .i64 0, .slice none 0 0, .slice none 0 0] 61) = w1 := ⟨_, rfl⟩
  have BW0 : Hid (Below w.heap.size w w1) := by rw [Hid, ← hw1]; exact (Below.refl _ _).alloc (Nat.le_refl _) _
  have sz1 : Hid (w1.heap.size = w.heap.size + 1) := by rw [Hid, ← hw1]; simp
  have R1 : Hid (Blk w1 w.heap.size 61 #[.int .i64 0, .slice none 0 0, .slice none 0 0]) := by rw [Hid, ← hw1]; exact Blk.new _ _ _
  have hlt := hXB.lt
  have XB1 : Hid (Blk w1 bX 61 #[.int .i64 x.src, .slice aO x.out.length cO, .slice aD x.del.length cDl]) := hXB.below BW0.out hlt
  have T1 : Hid (IsTree w1 aO aD x) := hT.below (Nat.le_refl _) BW0.out
  have lt1 : bX < w1.heap.size := XB1.out.lt
  have ltr : w.heap.size < w1.heap.size := R1.out.lt
  have KX : Hid (∀ w', Below w1.heap.size w1 w' → w'.cell? ⟨bX, 0, none⟩ = some (.int .i64 x.src) ∧ w'.cell? ⟨bX, 2, none⟩ = some (.slice aD x.del.length cDl) ∧ w'.cell? ⟨bX, 1, none⟩ = some (.slice aO x.out.length cO)) := fun w' hb => by
    have := XB1.out.below hb lt1
    exact ⟨this.cell 0, this.cell 2, this.cell 1⟩
  have CW : Hid (∀ (a : Option Addr) (c : Nat) (l : List Int), l.length ≤ 1000000 → IsRec 1 cI 0 w1 a l.length l → ∀ w', Below w1.heap.size w1 w' → Calls Try.prog 35 #[.slice a l.length c] w' (fun e w'' => (∃ v, e = .returned v ∧ w''.ownsRow w'.heap.size 3 1 v l.length (l.flatMap cI)) ∧ Below w'.heap.size w' w'' ∧ Below w1.heap.size w1 w'' ∧
      ∀ j, (w1.heap.size < w'.heap.size → w''.cell? ⟨w1.heap.size, j, none⟩ = w'.cell? ⟨w1.heap.size, j, none⟩ ∧ w''.frozen? ⟨w1.heap.size, j, none⟩ = w'.frozen? ⟨w1.heap.size, j, none⟩ ∧ w1.heap.size < w''.heap.size ∧ ¬ w1.heap.size = w''.heap.size))) := fun a c l hl hr w' hb => by
    refine (cloneC_any a c l w' hl (hr.below (Nat.le_refl _) hb)).mono fun e w'' h => ?_
    obtain ⟨v, he, ho, hb2⟩ := h
    have hz2 := hb2.size
    exact ⟨⟨v, he, ho⟩, hb2, hb.trans (hb2.mono hb.size), fun j hl => ⟨hb2.cell hl, hb2.frozen hl, by omega, by omega⟩⟩
  have CD := Lib.hid (CW.out aD cDl x.del hx.dl T1.out.del)
  have HX := Lib.hid hx
  have HW1 := Lib.hid hw1
  obtain ⟨x0, x2, x1⟩ := KX.out w1 (Below.refl _ _)
  clear hXB hT hx hw1 hlt
  go_enter Try.func34, Try.ntmps34
  go_wp2_with fail
  rw [HW1.out]
  go_cut [2] from 5 to 10 (fun s2 wx => RgC x w1 s2 wx)
  case first =>
    clear CW HX HW1 BW0 sz1 R1 XB1 T1 x1
    go_region_held3 (fun w' => w'.cell? ⟨bX, 0, none⟩ = some (.int .i64 x.src) ∧ w'.cell? ⟨bX, 2, none⟩ = some (.slice aD x.del.length cDl))
      (first | exact ⟨x0, x2⟩ | (refine ⟨(KX.out _ ?_).1, (KX.out _ ?_).2.1⟩ <;> repeat (first | exact Below.refl _ _ | exact BS.out | refine below_drewS ?_ | refine below_allocS ?_ _ | refine below_setS ?_ (by first | exact Nat.le_refl _ | (dsimp only; omega) | (dsimp only; have := BS.out.size; omega)))))
      (first
        | (go_at_call 35
           refine (CD.out _ (by repeat (first | exact Below.refl _ _ | refine below_drewS ?_ | refine below_allocS ?_ _))).mono ?_
           rintro e ws ⟨⟨vD, rfl, ho⟩, bels, bs1, pos⟩
           have BS := Lib.hid bs1
           have BLS := Lib.hid bels
           obtain ⟨aV, cV, hv, _⟩ := rec_of_own (d := (0 : Int)) cI_length (by decide) ho
           subst hv
           have OD := Lib.hid ho
           have xc0 := pos 0
           have xc1 := pos 1
           have xc2 := pos 2
           try simp [go_sem] at xc0
           try simp [go_sem] at xc1
           try simp [go_sem] at xc2
           clear ho bels bs1 pos))
    all_goals
      go_wp2_with fail
      go_meet
      case rel =>
        have z0 := BLS.out.size
        simp at z0
        first
          | exact ⟨ws.heap.size, _, rfl, blkA0 ws _ _, (show ws.ownsRow w1.heap.size 3 1 _ _ _ from OD.out).alloc _, (fun e => by have := (OD.out.lt _ e).2; omega), BS.out.size, below_allocS BS.out _⟩
          | exact ⟨w1.heap.size, _, rfl, fill3 (a0 := .int .i64 0) (a1 := .slice none 0 0) (a2 := .slice none 0 0) (keepD (by with_reducible exact blkA0 _ _ _) BLS.out) _ _ _, own3 (own_mono OD.out (by simp)) (fun e => by have := (OD.out.lt _ e).1; simp at this; omega) _ _ _, (fun e => by have := (OD.out.lt _ e).1; simp at this; omega), Nat.le_refl _, below_setS (below_setS (below_setS BS.out (Nat.le_refl _)) (Nat.le_refl _)) (Nat.le_refl _)⟩
  case rest =>
    obtain ⟨g2, vD, rfl, hB2, hD, hne, hg2, belc⟩ := hcut
    have NED := Lib.hid hne
    have ST : Hid (RelCy x g2 vD w1 (.int .i64 0) wc) := ⟨0, Nat.zero_le _, rfl, ⟨.slice none 0 0, fun _ => .slice none 0 0, hB2, ⟨hD, World.ownsRow_nil _ _ _ _, fun i hi => (by omega), fun g _ e => (by cases e), fun i hi => (by omega), fun g e => (by cases e), fun i j hi => (by omega)⟩, hne, (by simp [Value.ownBlock]), fun i hi => (by omega)⟩, belc⟩
    obtain ⟨_, _, x1c⟩ := KX.out wc belc
    obtain ⟨i1, hi1, hy0, hy1, hy2⟩ := info_parts infoIntsC
    clear hB2 hD hne belc x0 x1 x2
    go_wp2_with fail
    go_loopw [14] (fun i wr => RelCy x g2 vD w1 i wr) (fun i _ => x.out.length - (RowKit.intOf i).toNat)
    case atStart => exact ST.out
    case round =>
      clear ST x1c
      obtain ⟨k, hk, rfl, ⟨vO, V, hB, hC, _, hnO, hnV⟩, belr⟩ := hrel
      have BE := Lib.hid belr
      have BK := Lib.hid hB
      have HC := Lib.hid hC
      have NO := Lib.hid hnO
      have NV := Lib.hid hnV
      clear hB hC hnO hnV belr
      by_cases hkr : k < x.out.length
      · obtain ⟨bo, oo, ar, capr, hao, hbo, hmr, hrr, cr0⟩ := T1.out.out.at_ k hkr
        have cr1 := (BE.out.cell (p := ⟨bo, oo + k, none⟩) hbo).trans cr0
        have CR := Lib.hid (CW.out ar capr (x.out.getD k []) (HX.out.rl _ hmr) hrr)
        have RK : Hid ((fun i => x.out.getD i []) k = x.out.getD k []) := rfl
        have NXT : Hid (∀ wq, CyI x g2 vD w1.heap.size (k + 1) wq → Below w1.heap.size w1 wq → RelCy x g2 vD w1 (.int .i64 ((k + 1 : Nat) : Int)) wq) := fun wq h hb => ⟨k + 1, by omega, rfl, h, hb⟩
        have PSH : Hid (∀ (wa wb : World) (v v' : Value), wa.ownsRow wr.heap.size 3 1 v (x.out.getD k []).length ((x.out.getD k []).flatMap cI) → Below wr.heap.size wr wa → wb.ownsRow w1.heap.size 35 1 v' (k + 1) ((List.range k).map V ++ [v]) → wa.grownBy wb vO.ownBlock → (v'.ownBlock = vO.ownBlock ∨ v'.ownBlock = some wa.heap.size) → g2 < wr.heap.size →
            CyI x g2 vD w1.heap.size (k + 1) (wb.setCell ⟨g2, 1, none⟩ v') ∧ Below w1.heap.size w1 (wb.setCell ⟨g2, 1, none⟩ v')) := fun wa wb v v' hv hb ho hg hf hlt => by
          have hz := hb.size
          have c2 := HC.out.push rfl hv hb BE.out.size ho hg (by rcases hf with q | q; exact .inl q; exact .inr ⟨_, q, Nat.le_refl _⟩)
          have nv : v.ownBlock ≠ some g2 := fun e => by have := (hv.lt g2 e).1; omega
          have nO' : v'.ownBlock ≠ some g2 := fun e => by
            rcases hf with q | q
            · exact NO.out (by rw [← q]; exact e)
            · rw [q] at e; injection e with e; omega
          have nV : ∀ i, i < k + 1 → (upd1 V k v i).ownBlock ≠ some g2 := fun i hi => by
            by_cases q : i = k
            · subst q; rw [upd1_same]; exact nv
            · rw [upd1_other V v q]; exact NV.out i (by omega)
          have b2 : Blk wb g2 61 #[.int .i64 x.src, vO, vD] := (BK.out.below hb hlt).grown hg (fun e => NO.out e.symm)
          have b1 : Below w1.heap.size w1 wb := (BE.out.trans (hb.mono BE.out.size)).grown hg (by have := BE.out.size; omega) (fun g e => (HC.out.o.lt g e).1)
          exact ⟨⟨v', upd1 V k v, b2.set_ 1 v', c2.kept (only_setCell (only_refl _ _) (.inl rfl) v') (fun g e e2 => NED.out (by rw [e, e2])) (fun g e e2 => nO' (by rw [e, e2])) (fun i hi g e e2 => nV i hi (by rw [e, e2])), NED.out, nO', nV⟩, b1.setCell hg2 _⟩
        have hg2r : g2 < wr.heap.size := BK.out.lt
        have y1 : wr.cell? ⟨g2, 1, none⟩ = some vO := BK.out.cell 1
        have KY : Hid (∀ w', Below wr.heap.size wr w' → Blk w' g2 61 #[.int .i64 x.src, vO, vD] ∧ w'.ownsRow w1.heap.size 35 1 vO k ((List.range k).map V)) := fun w' hb => ⟨BK.out.below hb hg2r, own_belowK' HC.out.o hb⟩
        generalize x.out.getD k [] = row at *
        generalize (List.range k).map V = VS at *
        have HAO := Lib.hid hao
        subst hao
        have ki : (k : Int) < (x.out.length : Int) := by omega
        clear hmr hrr cr0
        go_wp2_with fail
        clear cr1
        have NOX := NO
        clear KX CW CD T1 XB1 R1 RK HX NV NO HC
        have ENT := enters_of (P := Try.prog) Try.func35 (by kernel_rfl) rfl
        go_region_law
          (first
            | (refine step_call1 (by rfl) ENT (by rfl) (by rfl) (CR.out _ (BE.out.drew)) ?_
               rintro e ws ⟨⟨v, rfl, ho⟩, bels, bs1, pos⟩
               refine ⟨_, rfl, ?_⟩
               obtain ⟨av, cv, hv, _⟩ := rec_of_own (d := (0 : Int)) cI_length (by decide) ho
               subst hv
               have BLS : Hid (Below wr.heap.size wr ws) := (Below.refl _ _).drew.trans bels
               have OV : Hid (ws.ownsRow wr.heap.size 3 1 (.slice av row.length cv) row.length (row.flatMap cI)) := ho
               obtain ⟨kb, ko⟩ := KY.out ws BLS.out
               have KB := Lib.hid kb
               have KO := Lib.hid ko
               have y1s : ws.cell? ⟨g2, 1, none⟩ = some vO := kb.cell 1
               have ltS : g2 < ws.heap.size := kb.lt
               have neS : ¬ g2 = ws.heap.size := by omega
               clear ho bels bs1 pos kb ko)
            | (refine step_append_any _ (by rfl) (.tmp 19) (.tmp 22) 59 (by rfl) w1.heap.size 35 i1 _ 1 24 Try.underlying59 hi1 hy0 hy1 hy2 rfl (by decide) _ k VS (by rfl) (by first | exact KO.out.alloc _ | exact (KO.out.alloc _).drew) (ws.heap.size + 1) (some ⟨ws.heap.size, 0, none⟩) 1 1 [.slice av row.length cv] (by rfl) (reads_newC ws _ _) ?_ ?_ ?_ ?_ ?_; (intro u hu; simp at hu; rw [hu]; rfl); (unfold maxLen; omega); omega; (simp; have := BE.out.size; have := BLS.out.size; omega); intro v' w6 own6 gr6 loc6; obtain ⟨b6, q6, hv6⟩ := ownsRow_pos (by omega) own6; subst hv6; have k6 : w6.cell? ⟨g2, 1, none⟩ = some vO := ((KB.out.alloc _).grown gr6 (fun e => NOX.out e.symm)).cell 1; have f6 : w6.frozen? ⟨g2, 1, none⟩ = false := ((KB.out.alloc _).grown gr6 (fun e => NOX.out e.symm)).frozen 1))
        all_goals
          have z1 := BE.out.size
          have z2 := BLS.out.size
          have RR := PSH.out _ w6 (.slice av row.length cv) (.slice (some ⟨b6, 0, none⟩) (k + 1) q6) (by first | exact OV.out.alloc _ | exact (OV.out.alloc _).drew) (by first | exact BLS.out.alloc BLS.out.size _ | exact (BLS.out.alloc BLS.out.size _).drew) own6 gr6 loc6 hg2r
          have R := Lib.hid (NXT.out _ RR.1 RR.2)
          clear own6 gr6 loc6 RR y1 y1s
          go_wp2_with fail
          exact ⟨by simpa using R.out, by simp [RowKit.intOf]; omega⟩
      · obtain rfl : k = x.out.length := by omega
        have y0 : wr.cell? ⟨g2, 0, none⟩ = some (.int .i64 x.src) := BK.out.cell 0
        have y1 : wr.cell? ⟨g2, 1, none⟩ = some vO := BK.out.cell 1
        have y2 : wr.cell? ⟨g2, 2, none⟩ = some vD := BK.out.cell 2
        obtain ⟨aD2, cD2, hvD, _⟩ := rec_of_own (d := (0 : Int)) cI_length (by decide) HC.out.d
        have fvO : ∃ aO2 cO2, vO = .slice aO2 x.out.length cO2 := by
          rcases HC.out.o.2 with ⟨e, h0⟩ | ⟨gg, cc, _, e, _⟩
          · exact ⟨none, 0, by rw [e, h0]⟩
          · exact ⟨_, _, e⟩
        obtain ⟨aO2, cO2, hvO⟩ := fvO
        subst hvD
        subst hvO
        have RB : Hid (Blk wr w.heap.size 61 #[.int .i64 0, .slice none 0 0, .slice none 0 0]) := R1.out.below BE.out ltr
        have r0 : wr.cell? ⟨w.heap.size, 0, none⟩ = some (.int .i64 0) := RB.out.cell 0
        have r1 : wr.cell? ⟨w.heap.size, 1, none⟩ = some (.slice none 0 0) := RB.out.cell 1
        have r2 : wr.cell? ⟨w.heap.size, 2, none⟩ = some (.slice none 0 0) := RB.out.cell 2
        have f0 := RB.out.frozen 0
        have f1 := RB.out.frozen 1
        have f2 := RB.out.frozen 2
        have F : Hid (CopyPost x w (.returned (.agg #[.int .i64 x.src, .slice aO2 x.out.length cO2, .slice aD2 x.del.length cD2])) (((wr.setCell ⟨w.heap.size, 0, none⟩ (.int .i64 x.src)).setCell ⟨w.heap.size, 1, none⟩ (.slice aO2 x.out.length cO2)).setCell ⟨w.heap.size, 2, none⟩ (.slice aD2 x.del.length cD2))) := by
          have h3 := sz1.out
          have c1 := HC.out
          rw [h3] at c1
          exact ⟨_, _, V, rfl, ((c1.far (p := ⟨w.heap.size, 0, none⟩) (by show w.heap.size < _; omega) _).far (p := ⟨w.heap.size, 1, none⟩) (by show w.heap.size < _; omega) _).far (p := ⟨w.heap.size, 2, none⟩) (by show w.heap.size < _; omega) _, below_setS (below_setS (below_setS (BW0.out.trans (BE.out.mono BW0.out.size)) (Nat.le_refl _)) (Nat.le_refl _)) (Nat.le_refl _)⟩
        go_wp2_with fail
        refine bodyPost_ret (v := .agg #[.int .i64 x.src, .slice aO2 x.out.length cO2, .slice aD2 x.del.length cD2]) (by simp [results, Try.results34, go_sem, r0, r1, r2]) rfl ?_
        exact F.out
end Go.Proofs.Ytljojgpjgjfddaa

/- A copied tree in memory: as a tree, with a row set, grown or sorted, with a delivery more. -/
namespace Go.Proofs.Ytljojgpjgjfddaa
open Go.RowKit Go.Maps Go.Sort Go.Shelf
set_option linter.unusedVariables false
set_option linter.unusedSimpArgs false

theorem own_setC {w : World} {base e n cap g : Nat} {xs : List Value} (h : w.ownsRow base e 1 (.slice (some ⟨g, 0, none⟩) n cap) n xs) {i : Nat} (hi : i < n) (u : Value) : (w.setCell ⟨g, i, none⟩ u).ownsRow base e 1 (.slice (some ⟨g, 0, none⟩) n cap) n (xs.set i u) := by
  obtain ⟨h1, ⟨h2, _⟩ | ⟨g', cap', cur, h2, hb, hg, hn, hc, hs, ht⟩⟩ := h
  · injection h2 with h2; cases h2
  · injection h2 with h2 _ h3
    injection h2 with h2
    injection h2 with h2
    subst h2
    subst h3
    refine ⟨by rw [List.length_set]; exact h1, .inr ⟨g, cap, cur.setIfInBounds i u, rfl, hb, (show Blk w g e cur from hg).set_ i u, hn, hc, by simpa using hs, ?_⟩⟩
    rw [Array.toList_setIfInBounds, List.take_set, ht]
section
variable {w w' : World} {base n : Nat} {vD vO : Value} {del : List Int} {V : Nat → Value} {R : Nat → List Int}
def rowsN (n : Nat) (R : Nat → List Int) : List (List Int) := (List.range n).map R
theorem rowsN_len (n : Nat) (R : Nat → List Int) : (rowsN n R).length = n := by simp [rowsN]
theorem rowsN_at {i : Nat} (hi : i < n) (R : Nat → List Int) : (rowsN n R).getD i [] = R i := by simp [rowsN, List.getD, hi]
theorem rowsN_out {i : Nat} (hi : ¬ i < n) (R : Nat → List Int) : (rowsN n R).getD i [] = [] := by simp [rowsN, List.getD, List.getElem?_eq_none (show (List.map R (List.range n)).length ≤ i by simp; omega)]
theorem rowsN_self (l : List (List Int)) : rowsN l.length (fun i => l.getD i []) = l := by
  apply List.ext_getElem (by simp [rowsN])
  intro i h1 h2
  simp [rowsN, List.getD, h2]
theorem CPt.form (h : CPt w base vD del vO n V R) (hn : 0 < n) : ∃ g cO, vO = .slice (some ⟨g, 0, none⟩) n cO ∧ base ≤ g ∧ g < w.heap.size ∧ (∀ i, i < n → w.cell? ⟨g, i, none⟩ = some (V i) ∧ w.frozen? ⟨g, i, none⟩ = false) := by
  obtain ⟨g, cO, e⟩ := ownsRow_pos hn h.o
  subst e
  have ho : w.ownsRow base 35 1 (.slice (some ⟨g, 0, none⟩) n cO) n (((List.range n).map V).flatMap (fun v : Value => [v])) := by
    have : ((List.range n).map V).flatMap (fun v : Value => [v]) = (List.range n).map V := by rw [List.flatMap_singleton']
    rw [this]; exact h.o
  obtain ⟨a, c, e, _, hr, _⟩ := rec_of_own (m := 1) (d := undef) (c := fun v : Value => [v]) (fun _ => rfl) (by decide) ho
  injection e with e1 _ e2
  subst e1
  subst e2
  obtain ⟨b, off, e, hb, hc⟩ := hr.2 hn
  injection e with e
  injection e with e1 e2
  subst e1
  subst e2
  refine ⟨g, cO, rfl, (h.o.lt g rfl).1, hb, fun i hi => ⟨?_, ?_⟩⟩
  · have := hc i 0 hi (by omega)
    simpa [List.getD, hi] using this
  · rcases h.o.2 with ⟨e, _⟩ | ⟨g', cap, cur, e, _, hg, _⟩
    · cases e
    · injection e with e _ _
      injection e with e
      injection e with e _
      subst e
      simp [World.frozen?, hg]
theorem CPt.rowRec (h : CPt w base vD del vO n V R) {i : Nat} (hi : i < n) : ∃ a cap, V i = .slice a (R i).length cap ∧ IsRec 1 cI 0 w a (R i).length (R i) ∧ ∀ x, a = some x → (V i).ownBlock = some x.block := by
  obtain ⟨a, cap, e, _, hr, _⟩ := rec_of_own (d := (0 : Int)) cI_length (by decide) (h.r i hi)
  exact ⟨a, cap, e, hr, fun x hx => by rw [e, hx]; rfl⟩
/-- The tree with row u in another place. -/
theorem CPt.tree_set (h : CPt w base vD del vO n V R) {g : Nat} (hg : ∀ q, vO.ownBlock = some q → q = g) {aO : Option Addr} {cO : Nat} (eO : vO = .slice aO n cO) {u : Nat} (hu : u < n) {a' : Option Addr} {c' : Nat} {row : List Int} (hr : IsRec 1 cI 0 w a' row.length row) (hx : ∀ x, a' = some x → x.block ≠ g) (hO : ∃ q, aO = some ⟨q, 0, none⟩ ∧ q = g) {aD : Option Addr} {cD : Nat} (eD : vD = .slice aD del.length cD) (s : Int) :
    IsTree (w.setCell ⟨g, u, none⟩ (.slice a' row.length c')) aO aD ⟨s, rowsN n (upd1 R u row), del⟩ := by
  obtain ⟨q, hq, rfl⟩ := hO
  subst hq
  obtain ⟨gg, cc, e, hb, hlt, hc⟩ := h.form (by omega)
  rw [e] at eO
  injection eO with e1 _ _
  injection e1 with e1
  injection e1 with e1 _
  subst e1
  have ob : vO.ownBlock = some gg := by rw [e]; rfl
  refine ⟨⟨by simp [rowsN], fun h0 => ⟨gg, 0, rfl, by simpa [World.setCell] using hlt, fun i hi => ?_⟩⟩, ?_⟩
  · have hi' : i < n := by simpa [rowsN] using hi
    clear hi
    rw [show (⟨s, rowsN n (upd1 R u row), del⟩ : Tr).out.getD i [] = upd1 R u row i from rowsN_at hi' _, Nat.zero_add]
    by_cases q : i = u
    · subst q
      rw [upd1_same]
      obtain ⟨x, hx2⟩ : ∃ x, w.cell? ⟨gg, i, none⟩ = some x := ⟨_, (hc i hi').1⟩
      exact ⟨a', c', hr.farT (fun x e => by have := hx x e; exact fun e2 => this e2.symm) _, World.cell?_setCell_same' _ _ _ (by rw [hx2]; rfl)⟩
    · rw [upd1_other R row q]
      obtain ⟨a, cap, ev, hrr, hbk⟩ := h.rowRec hi'
      refine ⟨a, cap, hrr.farT (fun x e e2 => h.aor i hi' gg ob (by rw [hbk x e]; exact congrArg some e2.symm)) _, ?_⟩
      rw [← ev]
      rw [World.cell?_setCell_other w _ _ _ (fun e => by injection e with _ e; omega)]
      exact (hc i hi').1
  · obtain ⟨a, cap, e2, _, hrr, _⟩ := rec_of_own (d := (0 : Int)) cI_length (by decide) h.d
    rw [e2] at eD
    injection eD with e3 _ _
    subst e3
    refine hrr.farT (fun x e4 e5 => ?_) _
    exact h.ado x.block (by rw [e2, e4]; rfl) (by rw [ob]; exact congrArg some e5)
theorem CPt.tree (h : CPt w base vD del vO n V R) {aO aD : Option Addr} {cO cD : Nat} (eO : vO = .slice aO n cO) (eD : vD = .slice aD del.length cD) (s : Int) : IsTree w aO aD ⟨s, rowsN n R, del⟩ := by
  refine ⟨⟨by simp [rowsN], fun h0 => ?_⟩, ?_⟩
  · have hn : 0 < n := by simpa [rowsN] using h0
    obtain ⟨gg, cc, e, hb, hlt, hc⟩ := h.form hn
    rw [e] at eO
    injection eO with e1 _ _
    subst e1
    refine ⟨gg, 0, rfl, hlt, fun i hi => ?_⟩
    have hi' : i < n := by simpa [rowsN] using hi
    clear hi
    obtain ⟨a, cap, ev, hrr, _⟩ := h.rowRec hi'
    rw [show (⟨s, rowsN n R, del⟩ : Tr).out.getD i [] = R i from rowsN_at hi' _, Nat.zero_add]
    exact ⟨a, cap, hrr, by rw [← ev]; exact (hc i hi').1⟩
  · obtain ⟨a, cap, e2, _, hrr, _⟩ := rec_of_own (d := (0 : Int)) cI_length (by decide) h.d
    rw [e2] at eD
    injection eD with e3 _ _
    subst e3
    exact hrr
/-- Row u grows. -/
theorem CPt.grow (h : CPt w base vD del vO n V R) {g cO : Nat} (eO : vO = .slice (some ⟨g, 0, none⟩) n cO) {u : Nat} (hu : u < n) {v' : Value} {row : List Int} (ho : w'.ownsRow base 3 1 v' row.length (row.flatMap cI)) (hg : w.grownBy w' (V u).ownBlock) (hv : v'.ownBlock = (V u).ownBlock ∨ v'.ownBlock = some w.heap.size) :
    CPt (w'.setCell ⟨g, u, none⟩ v') base vD del vO n (upd1 V u v') (upd1 R u row) := by
  have ob : vO.ownBlock = some g := by rw [eO]; rfl
  have lD : ∀ q, vD.ownBlock = some q → base ≤ q ∧ q < w.heap.size := fun q e => h.d.lt q e
  have lO := h.o.lt g ob
  have lR : ∀ i, i < n → ∀ q, (V i).ownBlock = some q → base ≤ q ∧ q < w.heap.size := fun i hi q e => (h.r i hi).lt q e
  have hv' : ∀ q, v'.ownBlock = some q → (V u).ownBlock = some q ∨ q = w.heap.size := fun q e => by
    rcases hv with k | k
    · exact .inl (by rw [← k]; exact e)
    · rw [k] at e; injection e with e; exact .inr e.symm
  have nO : v'.ownBlock ≠ some g := fun e => by
    rcases hv' g e with k | k
    · exact h.aor u hu g ob k
    · omega
  have st : ∀ {v : Value} {e m k : Nat} {xs : List Value}, w'.ownsRow base e m v k xs → v.ownBlock ≠ some g → (w'.setCell ⟨g, u, none⟩ v').ownsRow base e m v k xs := fun hh hne => own_keptR hh (only_setCell (only_refl _ _) (.inl rfl) v') (fun q e e2 => hne (by rw [e, e2]))
  refine ⟨st (own_keptR h.d hg (fun q e e2 => h.adr u hu q e e2)) (fun e => h.ado g e ob), ?_, fun i hi => ?_, h.ado, fun i hi q e e2 => ?_, fun i hi q e e2 => ?_, fun i j hi hj hne q e e2 => ?_⟩
  · have h1 := own_keptR h.o hg (fun q e e2 => h.aor u hu q e e2)
    rw [eO] at h1 ⊢
    have h2 := own_setC h1 hu v'
    have e : (List.range n).map (upd1 V u v') = ((List.range n).map V).set u v' := by
      apply List.ext_getElem (by simp)
      intro i h1 h2
      simp only [List.getElem_map, List.getElem_range, List.getElem_set]
      unfold upd1
      by_cases q : i = u
      · subst q; simp
      · rw [if_neg q, if_neg (fun e => q e.symm)]
    rw [e]; exact h2
  · by_cases q : i = u
    · subst q; rw [upd1_same, upd1_same]; exact st ho nO
    · rw [upd1_other V v' q, upd1_other R row q]
      exact st (own_keptR (h.r i hi) hg (fun k e e2 => h.arr i u hi hu q k e e2)) (fun e => h.aor i hi g ob e)
  · by_cases k : i = u
    · subst k
      rw [upd1_same] at e2
      rcases hv' q e2 with k | k
      · exact h.adr i hi q e k
      · have := lD q e; omega
    · rw [upd1_other V v' k] at e2; exact h.adr i hi q e e2
  · rw [ob] at e
    injection e with e
    subst e
    by_cases k : i = u
    · subst k; rw [upd1_same] at e2; exact nO e2
    · rw [upd1_other V v' k] at e2; exact h.aor i hi g ob e2
  · by_cases k : i = u
    · subst k
      rw [upd1_same] at e
      rw [upd1_other V v' (fun e => hne e.symm)] at e2
      rcases hv' q e with k | k
      · exact h.arr i j hi hj hne q k e2
      · have := lR j hj q e2; omega
    · rw [upd1_other V v' k] at e
      by_cases k2 : j = u
      · subst k2
        rw [upd1_same] at e2
        rcases hv' q e2 with k3 | k3
        · exact h.arr i j hi hj hne q e k3
        · have := lR i hi q e; omega
      · rw [upd1_other V v' k2] at e2; exact h.arr i j hi hj hne q e e2
/-- Row u changes in its place. -/
theorem CPt.inplace (h : CPt w base vD del vO n V R) {u : Nat} (hu : u < n) {row : List Int} (ho : w'.ownsRow base 3 1 (V u) row.length (row.flatMap cI)) (hg : w.grownBy w' (V u).ownBlock) : CPt w' base vD del vO n V (upd1 R u row) :=
  ⟨own_keptR h.d hg (fun q e e2 => h.adr u hu q e e2), own_keptR h.o hg (fun q e e2 => h.aor u hu q e e2), fun i hi => by
    by_cases q : i = u
    · subst q; rw [upd1_same]; exact ho
    · rw [upd1_other R row q]; exact own_keptR (h.r i hi) hg (fun k e e2 => h.arr i u hi hu q k e e2), h.ado, h.adr, h.aor, h.arr⟩
/-- The deliveries grow. -/
theorem CPt.moreDel (h : CPt w base vD del vO n V R) {v' : Value} {del' : List Int} (ho : w'.ownsRow base 3 1 v' del'.length (del'.flatMap cI)) (hg : w.grownBy w' vD.ownBlock) (hv : v'.ownBlock = vD.ownBlock ∨ v'.ownBlock = some w.heap.size) : CPt w' base v' del' vO n V R := by
  have hv' : ∀ q, v'.ownBlock = some q → vD.ownBlock = some q ∨ q = w.heap.size := fun q e => by
    rcases hv with k | k
    · exact .inl (by rw [← k]; exact e)
    · rw [k] at e; injection e with e; exact .inr e.symm
  refine ⟨ho, own_keptR h.o hg (fun q e e2 => h.ado q e2 e), fun i hi => own_keptR (h.r i hi) hg (fun q e e2 => h.adr i hi q e2 e), fun q e e2 => ?_, fun i hi q e e2 => ?_, h.aor, h.arr⟩
  · rcases hv' q e with k | k
    · exact h.ado q k e2
    · have := h.o.lt q e2; omega
  · rcases hv' q e with k | k
    · exact h.adr i hi q k e2
    · have := (h.r i hi).lt q e2; omega
end
theorem sp_rel {T : Tr} {w7 wa : World} {gO u : Nat} {v' : Value} {t : TypeId} {cs : Array Value} {aO aD : Option Addr} (hT : IsTree (wa.setCell ⟨gO, u, none⟩ v') aO aD T) (hb : Below w7.heap.size w7 wa) (hg : w7.heap.size ≤ gO) :
    IsTree ((wa.setCell ⟨gO, u, none⟩ v').alloc (.cells cs t)).drew aO aD T ∧ Blk ((wa.setCell ⟨gO, u, none⟩ v').alloc (.cells cs t)).drew wa.heap.size t cs ∧ Below w7.heap.size w7 ((wa.setCell ⟨gO, u, none⟩ v').alloc (.cells cs t)).drew := by
  have e : (wa.setCell ⟨gO, u, none⟩ v').heap.size = wa.heap.size := by simp [World.setCell]
  refine ⟨hT.below (Nat.le_refl _) (((Below.refl _ _).alloc (Nat.le_refl _) _).drew), ?_, (((hb.setCell hg v').alloc (by rw [e]; exact hb.size) _).drew)⟩
  have := (Blk.new (wa.setCell ⟨gO, u, none⟩ v') t cs).drew
  rwa [e] at this
theorem own_rowcell {w : World} {base g n cO i : Nat} {V : Nat → Value} (h : w.ownsRow base 35 1 (.slice (some ⟨g, 0, none⟩) n cO) n ((List.range n).map V)) (hi : i < n) : w.cell? ⟨g, i, none⟩ = some (V i) ∧ w.frozen? ⟨g, i, none⟩ = false := by
  rcases h.2 with ⟨e, _⟩ | ⟨g', cap, cur, e, hb, hg, h1, h2, h3, h4⟩
  · cases e
  · injection e with e _ e3
    injection e with e
    injection e with e _
    subst e
    refine ⟨?_, by simp [World.frozen?, hg]⟩
    have h5 : (cur.toList.take (n * 1))[i]? = some (V i) := by rw [h4]; simp [hi]
    rw [List.getElem?_take_of_lt (by omega), Array.getElem?_toList] at h5
    simp only [World.cell?, hg, Option.isSome_none, Bool.false_eq_true, if_false]
    exact h5
end Go.Proofs.Ytljojgpjgjfddaa
